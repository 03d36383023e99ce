/- Part of a claim, shortened by a program from its texts: PbB. -/
import Derived.Test.YtfemfiiagjnhdaaGreatDoorQyE
set_option linter.unusedVariables false
set_option linter.unusedSimpArgs false
set_option maxRecDepth 10000
namespace Go.Proofs.YtfemfiiagjnhdaaGreatDoor
open Go Go.RowKit
theorem ag144 : Za5 Tryz.prog 144=some true:=by kernel_rfl
theorem ag28 : Za5 Tryz.prog 28=some false:=by kernel_rfl
theorem ag32 : Za5 Tryz.prog 32=some false:=by kernel_rfl
theorem ag34 : Za5 Tryz.prog 34=some true:=by kernel_rfl
theorem ag82 : Za5 Tryz.prog 82=some true:=by kernel_rfl
theorem bd144 : bdB Tryz.prog 144=true:=by kernel_rfl
theorem pl144 : Gj Tryz.prog 144=some #[(0,16),(16,1),(17,1),(18,1),(19,1),(20,1)]:=by kernel_rfl
theorem bd248 : bdB Tryz.prog 248=true:=by kernel_rfl
theorem pl248 : Gj Tryz.prog 248=some #[(0,1),(1,1),(2,1)]:=by kernel_rfl
theorem Zg4 : bdB Tryz.prog 34=true:=by kernel_rfl
theorem Zg5 : Gj Tryz.prog 34=some #[(0,1),(1,1),(2,1),(3,1),(4,1),(5,1),(6,1),(7,1),(8,1),(9,1)]:=by kernel_rfl
theorem bd82 : bdB Tryz.prog 82=true:=by kernel_rfl
theorem pl82 : Gj Tryz.prog 82=some #[(0,1),(1,1),(2,64)]:=by kernel_rfl
theorem Zt5 : ElemOk Tryz.prog 114 2 24 [.int .i64 0,.string ⟨#[]⟩]:=⟨by kernel_rfl,by kernel_rfl,by kernel_rfl,rfl,by decide⟩
theorem Zt6 : ElemOk Tryz.prog 116 3 24 [.int .i64 0,.int .i64 0,.bool false]:=⟨by kernel_rfl,by kernel_rfl,by kernel_rfl,rfl,by decide⟩
theorem Zt7 : ElemOk Tryz.prog 118 4 32 [.int .i64 0,.int .i64 0,.int .i64 0,.int .i64 0]:=⟨by kernel_rfl,by kernel_rfl,by kernel_rfl,rfl,by decide⟩
theorem el144 : ElemOk Tryz.prog 144 21 104 [.int .u32 0,.int .u32 0,.int .u32 0,.int .u32 0,.int .u32 0,.int .u32 0,.int .u32 0,.int .u32 0,.int .u32 0,.int .u32 0,.int .u32 0,.int .u32 0,.int .u32 0,.int .u32 0,.int .u32 0,.int .u32 0,.int .u32 0,.int .i64 0,.int .i64 0,.int .i64 0,.int .i64 0]:=⟨by kernel_rfl,by kernel_rfl,by kernel_rfl,rfl,by decide⟩
theorem Zd9 : ElemOk Tryz.prog 154 2 32 [.slice none 0 0,.int .i64 0]:=⟨by kernel_rfl,by kernel_rfl,by kernel_rfl,rfl,by decide⟩
theorem el4 : ElemOk Tryz.prog 4 1 1 [.bool false]:=⟨by kernel_rfl,by kernel_rfl,by kernel_rfl,rfl,by decide⟩
theorem el82 : ElemOk Tryz.prog 82 66 80 [.int .i64 0,.bool false,.int .u8 0,.int .u8 0,.int .u8 0,.int .u8 0,.int .u8 0,.int .u8 0,.int .u8 0,.int .u8 0,.int .u8 0,.int .u8 0,.int .u8 0,.int .u8 0,.int .u8 0,.int .u8 0,.int .u8 0,.int .u8 0,.int .u8 0,.int .u8 0,.int .u8 0,.int .u8 0,.int .u8 0,.int .u8 0,.int .u8 0,.int .u8 0,.int .u8 0,.int .u8 0,.int .u8 0,.int .u8 0,.int .u8 0,.int .u8 0,.int .u8 0,.int .u8 0,.int .u8 0,.int .u8 0,.int .u8 0,.int .u8 0,.int .u8 0,.int .u8 0,.int .u8 0,.int .u8 0,.int .u8 0,.int .u8 0,.int .u8 0,.int .u8 0,.int .u8 0,.int .u8 0,.int .u8 0,.int .u8 0,.int .u8 0,.int .u8 0,.int .u8 0,.int .u8 0,.int .u8 0,.int .u8 0,.int .u8 0,.int .u8 0,.int .u8 0,.int .u8 0,.int .u8 0,.int .u8 0,.int .u8 0,.int .u8 0,.int .u8 0,.int .u8 0]:=⟨by kernel_rfl,by kernel_rfl,by kernel_rfl,rfl,by decide⟩
theorem Zk9 : Zs Tryz.prog 104=true:=by kernel_rfl
theorem Zea : Zs Tryz.prog 125=true:=by kernel_rfl
theorem en173 : Zs Tryz.prog 173=true:=by kernel_rfl
theorem Zt8 : Zs Tryz.prog 175=true:=by kernel_rfl
theorem Zt9 : Zs Tryz.prog 238=true:=by kernel_rfl
theorem en46 : Zs Tryz.prog 46=true:=by kernel_rfl
theorem en47 : Zs Tryz.prog 47=true:=by kernel_rfl
theorem en53 : Zs Tryz.prog 53=true:=by kernel_rfl
theorem en56 : Zs Tryz.prog 56=true:=by kernel_rfl
theorem en60 : Zs Tryz.prog 60=true:=by kernel_rfl
theorem en67 : Zs Tryz.prog 67=true:=by kernel_rfl
theorem Zua : Zb2 Tryz.prog 144 2=some 17:=by kernel_rfl
theorem Zmj : Zb2 Tryz.prog 248 0=some 0:=by kernel_rfl
theorem Uk : Zb2 Tryz.prog 248 1=some 1:=by kernel_rfl
theorem Zp2 : Zb2 Tryz.prog 248 2=some 2:=by kernel_rfl
theorem Zp3 : Zb2 Tryz.prog 34 3=some 3:=by kernel_rfl
theorem Zp4 : Zb2 Tryz.prog 34 4=some 4:=by kernel_rfl
theorem Znq : Zb2 Tryz.prog 34 9=some 9:=by kernel_rfl
theorem Ztg : Zb2 Tryz.prog 82 2=some 2:=by kernel_rfl
theorem Zub : Xx Tryz.prog 144=some 21:=by kernel_rfl
theorem sz22 : Xx Tryz.prog 22=some 1:=by kernel_rfl
theorem sz23 : Xx Tryz.prog 23=some 1:=by kernel_rfl
theorem sz24 : Xx Tryz.prog 24=some 1:=by kernel_rfl
theorem sz25 : Xx Tryz.prog 25=some 1:=by kernel_rfl
theorem sz28 : Xx Tryz.prog 28=some 1:=by kernel_rfl
theorem sz32 : Xx Tryz.prog 32=some 1:=by kernel_rfl
theorem Ze9 : Xx Tryz.prog 34=some 10:=by kernel_rfl
theorem sz82 : Xx Tryz.prog 82=some 66:=by kernel_rfl
theorem Zuc : Gc Tryz.prog 144=some [.int .u32 0,.int .u32 0,.int .u32 0,.int .u32 0,.int .u32 0,.int .u32 0,.int .u32 0,.int .u32 0,.int .u32 0,.int .u32 0,.int .u32 0,.int .u32 0,.int .u32 0,.int .u32 0,.int .u32 0,.int .u32 0,.int .u32 0,.int .i64 0,.int .i64 0,.int .i64 0,.int .i64 0]:=by kernel_rfl
theorem ze248 : Gc Tryz.prog 248=some [.slice none 0 0,.int .i64 0,.int .i64 0]:=by kernel_rfl
theorem Zcd : Gc Tryz.prog 34=some [.int .i64 0,.int .i64 0,.int .i64 0,.slice none 0 0,.slice none 0 0,.slice none 0 0,.slice none 0 0,.slice none 0 0,.slice none 0 0,.slice none 0 0]:=by kernel_rfl
theorem ze82 : Gc Tryz.prog 82=some [.int .i64 0,.bool false,.int .u8 0,.int .u8 0,.int .u8 0,.int .u8 0,.int .u8 0,.int .u8 0,.int .u8 0,.int .u8 0,.int .u8 0,.int .u8 0,.int .u8 0,.int .u8 0,.int .u8 0,.int .u8 0,.int .u8 0,.int .u8 0,.int .u8 0,.int .u8 0,.int .u8 0,.int .u8 0,.int .u8 0,.int .u8 0,.int .u8 0,.int .u8 0,.int .u8 0,.int .u8 0,.int .u8 0,.int .u8 0,.int .u8 0,.int .u8 0,.int .u8 0,.int .u8 0,.int .u8 0,.int .u8 0,.int .u8 0,.int .u8 0,.int .u8 0,.int .u8 0,.int .u8 0,.int .u8 0,.int .u8 0,.int .u8 0,.int .u8 0,.int .u8 0,.int .u8 0,.int .u8 0,.int .u8 0,.int .u8 0,.int .u8 0,.int .u8 0,.int .u8 0,.int .u8 0,.int .u8 0,.int .u8 0,.int .u8 0,.int .u8 0,.int .u8 0,.int .u8 0,.int .u8 0,.int .u8 0,.int .u8 0,.int .u8 0,.int .u8 0,.int .u8 0]:=by kernel_rfl
set_option maxHeartbeats 4000000 in
theorem Zjx {w : World} {A : Nat → Addr} {cs0 : List Value} {a0 : GPlan} (hG : EV A w) (h0 : Qw w cs0 a0) {r : GState × ErrM} (hm : Zbi a0=some r) :
    Calls Tryz.prog 53 [.agg cs0.toArray].toArray w (Ret fun u w'=>∃ h_0 h_1 h_2 h_3 h_4 h_5 h_6 h_7,u=.tuple #[.agg #[.int .i64 r.1.Id,.int .i64 r.1.Frame,.int .i64 r.1.Epoch,h_0,h_1,h_2,h_3,h_4,h_5,h_6],h_7] ∧ St NB w w' [ownR 144 21 h_0 r.1.Procs.length (r.1.Procs.flatMap Zbh),ownR 3 1 h_1 r.1.Ready.length (r.1.Ready.flatMap eI),ownR 163 2 h_2 r.1.Timers.length (r.1.Timers.flatMap Zpt),ownR 4 1 h_3 r.1.Up.length (r.1.Up.flatMap eF),ownR 3 1 h_4 r.1.Sems.length (r.1.Sems.flatMap eI),deepR 154 2 Wu h_5 r.1.Ports,ownR 82 66 h_6 r.1.Pages.length (r.1.Pages.flatMap Zct),erQ A h_7 r.2]):=by
  obtain⟨bD,bA,bH,bI,rfl,bJ,bK,cK,aB⟩:=h0
  have hS:=St.begin NB w
  unfold Zbi at hm
  refine enter Tryz.func53 rfl rfl rfl ?_;intro a H;dsimp only [Qk,Nat.zero_add,Nat.reduceAdd] at H
  refine wp_seq (wp_region_lit (Wt H rfl (cs:=[.int .i64 a0.Id,.bool a0.Mobile,bD,bA,bH,.int .i64 a0.Events,bI]) rfl rfl ?_))
  clear H;intro b8 o5 hN kF hs;clear a;intro a H
  replace hS:=hS.newBlk hN kF hs;clear hN hs
  refine Qr H Zcd rfl ?_
  clear H;intro bX o6 hN kG hs;clear a;intro a H
  replace hS:=hS.newBlk hN kG hs;clear hN hs
  refine n_q H (Zb rfl) rfl ?_;clear H a;intro a H
  refine Ze (Za (wp_seq (wp_seq (wp_region_lit (n_q H (Zf rfl ((hS.blk 1 rfl).ldAll Zap Ut)) rfl ?_)))));clear H a;intro a H
  replace hm:=Zi hm;obtain⟨iV,kH,hm⟩:=hm
  refine Zj H rfl en57 (Ht (A:=A) (hG.ext hS.x) (⟨_,_,_,_,rfl,(bJ.ext (Zq.mono _) hS.x),(bK.ext (Zq.mono _) hS.x),(cK.ext (Zq.mono _) hS.x),(aB.ext (Zq.mono _) hS.x)⟩ : Qw _ [.int .i64 a0.Id,.bool a0.Mobile,bD,bA,bH,.int .i64 a0.Events,bI] a0) kH) rfl ?_
  clear H;intro kD b9 hv;clear a;intro a H;obtain⟨_,rfl,kI⟩:=hv
  replace hS:=hS.new kI;simp only [List.cons_append,List.nil_append] at hS
  refine n_q H (Qo (Va Tryz.underlying39 rfl rfl (hS.any 0 rfl : IsE A b9 kD iV).form) (show _=Value.bool (!decide (iV=.nil)) by rw [Xw.isNil (hS.any 0 rfl : IsE A b9 kD iV)])) rfl ?_;clear H a;intro a H
  refine Ze (Za (Zl H rfl (fun cO=>?_) (fun cO=>?_)))
  · replace hm:=Zu hm cO
    refine wp_seq (Gi (kB w.heap.size (b8 :: []) b9.drew.heap.size) 4 (by kernel_rfl) ?_)
    obtain⟨kE,cP⟩ : ∃ x,x=b9.drew:=⟨_,rfl⟩;rw [← cP];have kJ : Ext b9 kE:=by rw [cP];exact Ext.drew' _
    clear cP
    replace hS:=hS.ext kJ
    have kQ:=(hS.blk 2 rfl).lt
    have kK:=hS.x.size
    have hW:=Nat.le_refl kE.heap.size
    refine Zg 0 H rfl (Zz (cs:=[.int .i64 0,.int .i64 0,.int .i64 0,.slice none 0 0,.slice none 0 0,.slice none 0 0,.slice none 0 0,.slice none 0 0,.slice none 0 0,.slice none 0 0]) Zcd Zg4 Zg5 rfl (by kernel_rfl)) rfl (by kernel_rfl) (by kernel_rfl) (by kernel_rfl) (by kernel_rfl) (fun _ _ _ h=>h) ?_;clear H a;intro a H
    refine Xo 1 H rfl (Zf rfl (LdC.old (hG.ld Hr (by decide) Hv) hS.x kK Zi4)) rfl (by kernel_rfl) (by kernel_rfl) (by kernel_rfl) (by kernel_rfl) (fun _ _ _ h=>h) ?_;clear H a;intro a H
    replace hS:=hS.pk1
    refine Qj 2 H rfl rfl rfl (vs:=[.int .i64 0,.int .i64 0,.int .i64 0,.slice none 0 0,.slice none 0 0,.slice none 0 0,.slice none 0 0,.slice none 0 0,.slice none 0 0,.slice none 0 0]) rfl Ze9 (hS.blk 0 rfl) rfl (by simp) (by kernel_rfl) (.inl (fun h=>Zi3 h (hS.ge (i:=0) rfl) (Zcq (hS.ne (i:=0) (j:=2) (by decide) rfl rfl) Zcp))) ?_
    clear H;intro o7 hN iW hz;clear a;intro a H;replace hS:=hS.setBlk hN iW;clear hN hz;replace hW:=Nat.le_trans hW iW.size
    refine Zg 3 H rfl (Zb rfl) rfl (by kernel_rfl) (by kernel_rfl) (by kernel_rfl) (by kernel_rfl) (fun _ _ _ h=>h) ?_;clear H a;intro a H
    refine Qx (by kernel_rfl) ?_
    refine Za (wp_ret (Zh ?_))
    obtain rfl:=Option.some.inj hm
    replace hS:=hS.nilOwn 144 21
    replace hS:=hS.nilOwn 3 1
    replace hS:=hS.nilOwn 163 2
    replace hS:=hS.nilOwn 4 1
    replace hS:=hS.nilOwn 3 1
    replace hS:=hS.deepNil 154 2 Wu
    replace hS:=hS.nilOwn 82 66
    replace hS:=hS.dVar (A:=A) (g:=Hr) (by decide)
    replace hS:=hS.pk8
    replace hS:=hS.pk1
    replace hS:=hS.pk2
    replace hS:=hS.pk3
    replace hS:=hS.pk4
    replace hS:=hS.pk5
    replace hS:=hS.pk6
    replace hS:=hS.pk7
    replace hS:=hS.pk8
    replace hS:=hS.tk9
    refine Ti H (.inr rfl) rfl (vs:=[.agg #[.int .i64 0,.int .i64 0,.int .i64 0,.slice none 0 0,.slice none 0 0,.slice none 0 0,.slice none 0 0,.slice none 0 0,.slice none 0 0,.slice none 0 0],sv 340 A Hr]) (Qm rfl ((hS.blk 8 rfl).ldAll ag34 Ze9) (Xh rfl Qv)) ?_
    replace hS:=hS.tk8
    exact⟨_,_,_,_,_,_,_,_,rfl,hS⟩
  replace hm:=Zv hm cO
  refine wp_skip (Za ?_)
  replace hm:=Zi hm;obtain⟨o8,hm,aC⟩:=hm
  refine Hj (σ:=(List Bool) × (List Int) × (List GPort) × Value × Value × Value × Nat) H (fun (aV,aW,bF,aR,aS,aT,aY)=>[(1,.pointer (some ⟨b8,0,none⟩)),(2,.pointer (some ⟨bX,0,none⟩)),(4,.pointer (some ⟨aY,0,none⟩))]) (fun (aV,aW,bF,aR,aS,aT,aY) wl=>(Zah a0) (aV,aW,bF)=some r ∧ St NB w wl [blkR b8 [.int .i64 a0.Id,.bool a0.Mobile,bD,bA,bH,.int .i64 a0.Events,bI] 27,blkR bX [.int .i64 0,.int .i64 0,.int .i64 0,.slice none 0 0,.slice none 0 0,.slice none 0 0,.slice none 0 0,.slice none 0 0,.slice none 0 0,.slice none 0 0] 34,blkR aY [.int .i64 a0.Id,.int .i64 0,.int .i64 0,.slice none 0 0,.slice none 0 0,.slice none 0 0,aR,aS,aT,.slice none 0 0] 34,ownR 4 1 aR aV.length (aV.flatMap eF),ownR 3 1 aS aW.length (aW.flatMap eI),deepR 154 2 Wu aT bF]) ?_ ?_
  · skip
    refine Gi [] 15 (by kernel_rfl) ?_
    obtain⟨aI,cI⟩ : ∃ x,x=b9.drew:=⟨_,rfl⟩;rw [← cI];have jY : Ext b9 aI:=by rw [cI];exact Ext.drew' _
    clear cI
    replace hS:=hS.ext jY
    have bY:=hS
    have hW:=Nat.le_refl aI.heap.size
    refine Zg 0 H rfl (Zd rfl Zeh) rfl (by kernel_rfl) (by kernel_rfl) (by kernel_rfl) (by kernel_rfl) (fun _ _ _ h=>h) ?_;clear H a;intro a H
    refine Xo 1 H rfl (Zf rfl (LdC.old ((bY.blk 2 rfl).ld ag3 rfl) Ext.rfl' (Nat.le_refl _) (by simp))) rfl (by kernel_rfl) (by kernel_rfl) (by kernel_rfl) (by kernel_rfl) (fun _ _ _ h=>h) ?_;clear H a;intro a H
    refine Zg 2 H rfl (Zd rfl Zc2) rfl (by kernel_rfl) (by kernel_rfl) (by kernel_rfl) (by kernel_rfl) (fun _ _ _ h=>h) ?_;clear H a;intro a H
    refine Xo 3 H rfl (Zf rfl (LdC.old ((bY.blk 2 rfl).ld ag3 rfl) Ext.rfl' (Nat.le_refl _) (by simp))) rfl (by kernel_rfl) (by kernel_rfl) (by kernel_rfl) (by kernel_rfl) (fun _ _ _ h=>h) ?_;clear H a;intro a H
    refine Zg 5 H rfl (Zd rfl Gq) rfl (by kernel_rfl) (by kernel_rfl) (by kernel_rfl) (by kernel_rfl) (fun _ _ _ h=>h) ?_;clear H a;intro a H
    refine Xo 6 H rfl (Zf rfl (LdC.old ((bY.blk 2 rfl).ld Zij rfl) Ext.rfl' (Nat.le_refl _) (by simp))) rfl (by kernel_rfl) (by kernel_rfl) (by kernel_rfl) (by kernel_rfl) (fun _ _ _ h=>h) ?_;clear H a;intro a H
    refine Zg 8 H rfl (Zd rfl Gp) rfl (by kernel_rfl) (by kernel_rfl) (by kernel_rfl) (by kernel_rfl) (fun _ _ _ h=>h) ?_;clear H a;intro a H
    refine Xo 9 H rfl (Zf rfl (LdC.old ((bY.blk 2 rfl).ld Zi7 rfl) Ext.rfl' (Nat.le_refl _) (by simp))) rfl (by kernel_rfl) (by kernel_rfl) (by kernel_rfl) (by kernel_rfl) (fun _ _ _ h=>h) ?_;clear H a;intro a H
    obtain⟨lT,lU,jZ,kV,kW⟩:=SlR.formV (cK.ext (Zq.mono _) hS.x)
    refine Zg 10 H rfl (Qf Tryz.underlying24 rfl jZ) rfl (by kernel_rfl) (by kernel_rfl) (by kernel_rfl) (by kernel_rfl) (fun _ _ _ h=>h) ?_;clear H a;intro a H
    replace hm:=Tj hm;obtain⟨aA,hm⟩:=hm
    replace hm:=Tj hm;obtain⟨aE,hm⟩:=hm
    replace hm:=Zi hm;obtain⟨aD,aF,hm⟩:=hm
    replace hm:=Tj hm;obtain⟨aG,hm⟩:=hm
    refine k_four 4 7 11 13 (by kernel_rfl) ?_ ?_ ?_ ?_
    · skip
      refine Wc (e:=eF) (z0:=false) (L:=a0.Events.toNat) (C:=a0.Events.toNat) 4 H rfl Tryz.underlying30 el4 rfl (by show _=some (Value.int .i64 ((Int.toNat a0.Events : Nat) : Int));rw [Int.toNat_of_nonneg aA];rfl) (by show _=some (Value.int .i64 ((Int.toNat a0.Events : Nat) : Int));rw [Int.toNat_of_nonneg aA];rfl) (Nat.le_refl _) aE (by simp only [maxLen];omega) rfl ?_
      clear H;intro aJ lV hN eP hs;clear a;intro a H;replace hS:=hS.newOwn hN eP (by simp [Wa];omega);clear hN
      replace hW:=Nat.le_trans hW eP.size
      refine Zjk 7 11 13 (by kernel_rfl) ?_ ?_ ?_
      · skip
        refine Xy 7 H rfl rfl Zea (Qe (A:=A) (aB.ext (Zq.mono _) hS.x) aF) rfl (fun v w hv=>.inl (ChgF.of_ext (by obtain⟨_,_,hE0⟩:=hv;exact hE0.x))) ?_
        clear H;intro bO lW hv;clear a;intro a H;obtain⟨_,rfl,eQ⟩:=hv
        replace hS:=hS.new eQ;simp only [List.cons_append,List.nil_append] at hS
        replace hW:=Nat.le_trans hW eQ.x.size
        refine Zg0 11 13 (by kernel_rfl) ?_ ?_
        · skip
          refine Gl (L:=a0.Ports.length) (C:=a0.Ports.length) 11 H rfl Tryz.underlying31 Zd9 rfl rfl (Nat.le_refl _) aG (by simp only [maxLen];omega) rfl ?_
          clear H;intro cQ lX hN eT hs;clear a;intro a H;replace hS:=hS.newOwn hN eT (by simp [Wa];omega);clear hN
          replace hS:=St.mkDeep0 (R:=Wu) (z0:=(⟨([] : List ByteArray),0⟩ : GPort)) (n:=a0.Ports.length) rfl (by simp) (fun w=>⟨_,rfl,SlR.nil _ _ _⟩) hS
          replace hW:=Nat.le_trans hW eT.size
          refine Zg 12 H rfl (Zz (cs:=[.int .i64 a0.Id,.int .i64 0,.int .i64 0,.slice none 0 0,.slice none 0 0,.slice none 0 0,.slice (some ⟨aJ,0,none⟩) a0.Events.toNat a0.Events.toNat,bO,.slice (some ⟨cQ,0,none⟩) a0.Ports.length a0.Ports.length,.slice none 0 0]) Zcd Zg4 Zg5 rfl ((Qh rfl rfl (by simp)).trans ((Qh (((hS.own 2 rfl).slr rfl (fun _ _=>rfl))).one rfl (by simp)).trans ((Qh (((hS.own 1 rfl).slr rfl (fun _ _=>rfl))).one rfl (by simp)).trans ((Qh ((hS.deepSl 0 rfl)).one rfl (by simp)).trans rfl))))) rfl (by kernel_rfl) (by kernel_rfl) (by kernel_rfl) (by kernel_rfl) (fun _ _ _ h=>h) ?_;clear H a;intro a H
          refine Zf7 13 H rfl Zcd rfl (by kernel_rfl) ?_
          clear H;intro iX lY hN eU hs;clear a;intro a H
          have cR : aI.heap.size ≤ iX:=hs ▸ hW
          replace hS:=hS.newBlk hN eU hs;clear hN hs
          replace hW:=Nat.le_trans hW eU.size
          refine Qj 14 H rfl rfl rfl (vs:=[.int .i64 a0.Id,.int .i64 0,.int .i64 0,.slice none 0 0,.slice none 0 0,.slice none 0 0,.slice (some ⟨aJ,0,none⟩) a0.Events.toNat a0.Events.toNat,bO,.slice (some ⟨cQ,0,none⟩) a0.Ports.length a0.Ports.length,.slice none 0 0]) rfl Ze9 (hS.blk 0 rfl) rfl (by simp [(((hS.own 3 rfl).slr rfl (fun _ _=>rfl))).one,(((hS.own 2 rfl).slr rfl (fun _ _=>rfl))).one,((hS.deepSl 1 rfl)).one]) (by kernel_rfl) (.inl (fun h=>absurd h (Nat.not_lt.2 cR))) ?_
          clear H;intro lZ hN eV hz;clear a;intro a H;replace hS:=hS.setBlk hN eV;clear hN hz;replace hW:=Nat.le_trans hW eV.size
          refine Qx (by kernel_rfl) ?_
          refine Za ?_
          obtain rfl:=Option.some.inj hm;replace hm:=aC;try dsimp only at hm
          replace hS:=hS.pk1
          replace hS:=hS.pk2
          replace hS:=hS.pk3
          replace hS:=hS.pk3
          replace hS:=hS.pk5
          replace hS:=hS.pk6
          replace hS:=hS.tk6
          exact Wh ((List.replicate a0.Events.toNat false),aD,(List.replicate a0.Ports.length (⟨([] : List ByteArray),0⟩ : GPort)),.slice (some ⟨aJ,0,none⟩) a0.Events.toNat a0.Events.toNat,bO,.slice (some ⟨cQ,0,none⟩) a0.Ports.length a0.Ports.length,iX) H ⟨rfl,rfl,rfl,trivial⟩ ⟨hm,hS⟩
        refine Zae 13 H rfl Zcd rfl ?_
        clear H;intro iY l8 hN eW hs;clear a;intro a H
        have cT : aI.heap.size ≤ iY:=hs ▸ hW
        replace hS:=hS.newBlk hN eW hs;clear hN hs
        replace hW:=Nat.le_trans hW eW.size
        refine Xu 11 (by kernel_rfl) ?_
        refine Gl (L:=a0.Ports.length) (C:=a0.Ports.length) 11 H rfl Tryz.underlying31 Zd9 rfl rfl (Nat.le_refl _) aG (by simp only [maxLen];omega) rfl ?_
        clear H;intro cU l9 hN eX hs;clear a;intro a H;replace hS:=hS.newOwn hN eX (by simp [Wa];omega);clear hN
        replace hS:=St.mkDeep0 (R:=Wu) (z0:=(⟨([] : List ByteArray),0⟩ : GPort)) (n:=a0.Ports.length) rfl (by simp) (fun w=>⟨_,rfl,SlR.nil _ _ _⟩) hS
        replace hW:=Nat.le_trans hW eX.size
        refine Zg 12 H rfl (Zz (cs:=[.int .i64 a0.Id,.int .i64 0,.int .i64 0,.slice none 0 0,.slice none 0 0,.slice none 0 0,.slice (some ⟨aJ,0,none⟩) a0.Events.toNat a0.Events.toNat,bO,.slice (some ⟨cU,0,none⟩) a0.Ports.length a0.Ports.length,.slice none 0 0]) Zcd Zg4 Zg5 rfl ((Qh rfl rfl (by simp)).trans ((Qh (((hS.own 3 rfl).slr rfl (fun _ _=>rfl))).one rfl (by simp)).trans ((Qh (((hS.own 2 rfl).slr rfl (fun _ _=>rfl))).one rfl (by simp)).trans ((Qh ((hS.deepSl 0 rfl)).one rfl (by simp)).trans rfl))))) rfl (by kernel_rfl) (by kernel_rfl) (by kernel_rfl) (by kernel_rfl) (fun _ _ _ h=>h) ?_;clear H a;intro a H
        replace hS:=hS.pk1
        refine Qj 14 H rfl rfl rfl (vs:=[.int .i64 a0.Id,.int .i64 0,.int .i64 0,.slice none 0 0,.slice none 0 0,.slice none 0 0,.slice (some ⟨aJ,0,none⟩) a0.Events.toNat a0.Events.toNat,bO,.slice (some ⟨cU,0,none⟩) a0.Ports.length a0.Ports.length,.slice none 0 0]) rfl Ze9 (hS.blk 0 rfl) rfl (by simp [(((hS.own 3 rfl).slr rfl (fun _ _=>rfl))).one,(((hS.own 2 rfl).slr rfl (fun _ _=>rfl))).one,((hS.deepSl 1 rfl)).one]) (by kernel_rfl) (.inl (fun h=>absurd h (Nat.not_lt.2 cT))) ?_
        clear H;intro mA hN eY hz;clear a;intro a H;replace hS:=hS.setBlk hN eY;clear hN hz;replace hW:=Nat.le_trans hW eY.size
        refine Qx (by kernel_rfl) ?_
        refine Za ?_
        obtain rfl:=Option.some.inj hm;replace hm:=aC;try dsimp only at hm
        replace hS:=hS.pk1
        replace hS:=hS.pk2
        replace hS:=hS.pk3
        replace hS:=hS.pk3
        replace hS:=hS.pk5
        replace hS:=hS.pk6
        replace hS:=hS.tk6
        exact Wh ((List.replicate a0.Events.toNat false),aD,(List.replicate a0.Ports.length (⟨([] : List ByteArray),0⟩ : GPort)),.slice (some ⟨aJ,0,none⟩) a0.Events.toNat a0.Events.toNat,bO,.slice (some ⟨cU,0,none⟩) a0.Ports.length a0.Ports.length,iY) H ⟨rfl,rfl,rfl,trivial⟩ ⟨hm,hS⟩
      · skip
        refine Gl (L:=a0.Ports.length) (C:=a0.Ports.length) 11 H rfl Tryz.underlying31 Zd9 rfl rfl (Nat.le_refl _) aG (by simp only [maxLen];omega) rfl ?_
        clear H;intro bP mB hN eZ hs;clear a;intro a H;replace hS:=hS.newOwn hN eZ (by simp [Wa];omega);clear hN
        replace hS:=St.mkDeep0 (R:=Wu) (z0:=(⟨([] : List ByteArray),0⟩ : GPort)) (n:=a0.Ports.length) rfl (by simp) (fun w=>⟨_,rfl,SlR.nil _ _ _⟩) hS
        replace hW:=Nat.le_trans hW eZ.size
        refine Zg0 7 13 (by kernel_rfl) ?_ ?_
        · skip
          refine Xy 7 H rfl rfl Zea (Qe (A:=A) (aB.ext (Zq.mono _) hS.x) aF) rfl (fun v w hv=>.inl (ChgF.of_ext (by obtain⟨_,_,hE0⟩:=hv;exact hE0.x))) ?_
          clear H;intro cV mC hv;clear a;intro a H;obtain⟨_,rfl,e8⟩:=hv
          replace hS:=hS.new e8;simp only [List.cons_append,List.nil_append] at hS
          replace hW:=Nat.le_trans hW e8.x.size
          refine Zg 12 H rfl (Zz (cs:=[.int .i64 a0.Id,.int .i64 0,.int .i64 0,.slice none 0 0,.slice none 0 0,.slice none 0 0,.slice (some ⟨aJ,0,none⟩) a0.Events.toNat a0.Events.toNat,cV,.slice (some ⟨bP,0,none⟩) a0.Ports.length a0.Ports.length,.slice none 0 0]) Zcd Zg4 Zg5 rfl ((Qh rfl rfl (by simp)).trans ((Qh (((hS.own 2 rfl).slr rfl (fun _ _=>rfl))).one rfl (by simp)).trans ((Qh (((hS.own 0 rfl).slr rfl (fun _ _=>rfl))).one rfl (by simp)).trans ((Qh ((hS.deepSl 1 rfl)).one rfl (by simp)).trans rfl))))) rfl (by kernel_rfl) (by kernel_rfl) (by kernel_rfl) (by kernel_rfl) (fun _ _ _ h=>h) ?_;clear H a;intro a H
          refine Zf7 13 H rfl Zcd rfl (by kernel_rfl) ?_
          clear H;intro iZ mD hN e9 hs;clear a;intro a H
          have cW : aI.heap.size ≤ iZ:=hs ▸ hW
          replace hS:=hS.newBlk hN e9 hs;clear hN hs
          replace hW:=Nat.le_trans hW e9.size
          refine Qj 14 H rfl rfl rfl (vs:=[.int .i64 a0.Id,.int .i64 0,.int .i64 0,.slice none 0 0,.slice none 0 0,.slice none 0 0,.slice (some ⟨aJ,0,none⟩) a0.Events.toNat a0.Events.toNat,cV,.slice (some ⟨bP,0,none⟩) a0.Ports.length a0.Ports.length,.slice none 0 0]) rfl Ze9 (hS.blk 0 rfl) rfl (by simp [(((hS.own 3 rfl).slr rfl (fun _ _=>rfl))).one,(((hS.own 1 rfl).slr rfl (fun _ _=>rfl))).one,((hS.deepSl 2 rfl)).one]) (by kernel_rfl) (.inl (fun h=>absurd h (Nat.not_lt.2 cW))) ?_
          clear H;intro mE hN fA hz;clear a;intro a H;replace hS:=hS.setBlk hN fA;clear hN hz;replace hW:=Nat.le_trans hW fA.size
          refine Qx (by kernel_rfl) ?_
          refine Za ?_
          obtain rfl:=Option.some.inj hm;replace hm:=aC;try dsimp only at hm
          replace hS:=hS.pk2
          replace hS:=hS.pk2
          replace hS:=hS.pk3
          replace hS:=hS.pk3
          replace hS:=hS.pk5
          replace hS:=hS.pk6
          replace hS:=hS.tk6
          exact Wh ((List.replicate a0.Events.toNat false),aD,(List.replicate a0.Ports.length (⟨([] : List ByteArray),0⟩ : GPort)),.slice (some ⟨aJ,0,none⟩) a0.Events.toNat a0.Events.toNat,cV,.slice (some ⟨bP,0,none⟩) a0.Ports.length a0.Ports.length,iZ) H ⟨rfl,rfl,rfl,trivial⟩ ⟨hm,hS⟩
        refine Zae 13 H rfl Zcd rfl ?_
        clear H;intro i2 mF hN fB hs;clear a;intro a H
        have cX : aI.heap.size ≤ i2:=hs ▸ hW
        replace hS:=hS.newBlk hN fB hs;clear hN hs
        replace hW:=Nat.le_trans hW fB.size
        refine Xu 7 (by kernel_rfl) ?_
        refine Xy 7 H rfl rfl Zea (Qe (A:=A) (aB.ext (Zq.mono _) hS.x) aF) rfl (fun v w hv=>.inl (ChgF.of_ext (by obtain⟨_,_,hE0⟩:=hv;exact hE0.x))) ?_
        clear H;intro cY mG hv;clear a;intro a H;obtain⟨_,rfl,fC⟩:=hv
        replace hS:=hS.new fC;simp only [List.cons_append,List.nil_append] at hS
        replace hW:=Nat.le_trans hW fC.x.size
        refine Zg 12 H rfl (Zz (cs:=[.int .i64 a0.Id,.int .i64 0,.int .i64 0,.slice none 0 0,.slice none 0 0,.slice none 0 0,.slice (some ⟨aJ,0,none⟩) a0.Events.toNat a0.Events.toNat,cY,.slice (some ⟨bP,0,none⟩) a0.Ports.length a0.Ports.length,.slice none 0 0]) Zcd Zg4 Zg5 rfl ((Qh rfl rfl (by simp)).trans ((Qh (((hS.own 3 rfl).slr rfl (fun _ _=>rfl))).one rfl (by simp)).trans ((Qh (((hS.own 0 rfl).slr rfl (fun _ _=>rfl))).one rfl (by simp)).trans ((Qh ((hS.deepSl 2 rfl)).one rfl (by simp)).trans rfl))))) rfl (by kernel_rfl) (by kernel_rfl) (by kernel_rfl) (by kernel_rfl) (fun _ _ _ h=>h) ?_;clear H a;intro a H
        replace hS:=hS.pk1
        refine Qj 14 H rfl rfl rfl (vs:=[.int .i64 a0.Id,.int .i64 0,.int .i64 0,.slice none 0 0,.slice none 0 0,.slice none 0 0,.slice (some ⟨aJ,0,none⟩) a0.Events.toNat a0.Events.toNat,cY,.slice (some ⟨bP,0,none⟩) a0.Ports.length a0.Ports.length,.slice none 0 0]) rfl Ze9 (hS.blk 0 rfl) rfl (by simp [(((hS.own 3 rfl).slr rfl (fun _ _=>rfl))).one,(((hS.own 1 rfl).slr rfl (fun _ _=>rfl))).one,((hS.deepSl 2 rfl)).one]) (by kernel_rfl) (.inl (fun h=>absurd h (Nat.not_lt.2 cX))) ?_
        clear H;intro mH hN fD hz;clear a;intro a H;replace hS:=hS.setBlk hN fD;clear hN hz;replace hW:=Nat.le_trans hW fD.size
        refine Qx (by kernel_rfl) ?_
        refine Za ?_
        obtain rfl:=Option.some.inj hm;replace hm:=aC;try dsimp only at hm
        replace hS:=hS.pk2
        replace hS:=hS.pk2
        replace hS:=hS.pk3
        replace hS:=hS.pk3
        replace hS:=hS.pk5
        replace hS:=hS.pk6
        replace hS:=hS.tk6
        exact Wh ((List.replicate a0.Events.toNat false),aD,(List.replicate a0.Ports.length (⟨([] : List ByteArray),0⟩ : GPort)),.slice (some ⟨aJ,0,none⟩) a0.Events.toNat a0.Events.toNat,cY,.slice (some ⟨bP,0,none⟩) a0.Ports.length a0.Ports.length,i2) H ⟨rfl,rfl,rfl,trivial⟩ ⟨hm,hS⟩
      refine Zae 13 H rfl Zcd rfl ?_
      clear H;intro cZ mI hN fE hs;clear a;intro a H
      have cA : aI.heap.size ≤ cZ:=hs ▸ hW
      replace hS:=hS.newBlk hN fE hs;clear hN hs
      replace hW:=Nat.le_trans hW fE.size
      refine Zg0 7 11 (by kernel_rfl) ?_ ?_
      · skip
        refine Xy 7 H rfl rfl Zea (Qe (A:=A) (aB.ext (Zq.mono _) hS.x) aF) rfl (fun v w hv=>.inl (ChgF.of_ext (by obtain⟨_,_,hE0⟩:=hv;exact hE0.x))) ?_
        clear H;intro dA mJ hv;clear a;intro a H;obtain⟨_,rfl,fF⟩:=hv
        replace hS:=hS.new fF;simp only [List.cons_append,List.nil_append] at hS
        replace hW:=Nat.le_trans hW fF.x.size
        refine Xu 11 (by kernel_rfl) ?_
        refine Gl (L:=a0.Ports.length) (C:=a0.Ports.length) 11 H rfl Tryz.underlying31 Zd9 rfl rfl (Nat.le_refl _) aG (by simp only [maxLen];omega) rfl ?_
        clear H;intro dB mK hN fG hs;clear a;intro a H;replace hS:=hS.newOwn hN fG (by simp [Wa];omega);clear hN
        replace hS:=St.mkDeep0 (R:=Wu) (z0:=(⟨([] : List ByteArray),0⟩ : GPort)) (n:=a0.Ports.length) rfl (by simp) (fun w=>⟨_,rfl,SlR.nil _ _ _⟩) hS
        replace hW:=Nat.le_trans hW fG.size
        refine Zg 12 H rfl (Zz (cs:=[.int .i64 a0.Id,.int .i64 0,.int .i64 0,.slice none 0 0,.slice none 0 0,.slice none 0 0,.slice (some ⟨aJ,0,none⟩) a0.Events.toNat a0.Events.toNat,dA,.slice (some ⟨dB,0,none⟩) a0.Ports.length a0.Ports.length,.slice none 0 0]) Zcd Zg4 Zg5 rfl ((Qh rfl rfl (by simp)).trans ((Qh (((hS.own 3 rfl).slr rfl (fun _ _=>rfl))).one rfl (by simp)).trans ((Qh (((hS.own 1 rfl).slr rfl (fun _ _=>rfl))).one rfl (by simp)).trans ((Qh ((hS.deepSl 0 rfl)).one rfl (by simp)).trans rfl))))) rfl (by kernel_rfl) (by kernel_rfl) (by kernel_rfl) (by kernel_rfl) (fun _ _ _ h=>h) ?_;clear H a;intro a H
        replace hS:=hS.pk2
        refine Qj 14 H rfl rfl rfl (vs:=[.int .i64 a0.Id,.int .i64 0,.int .i64 0,.slice none 0 0,.slice none 0 0,.slice none 0 0,.slice (some ⟨aJ,0,none⟩) a0.Events.toNat a0.Events.toNat,dA,.slice (some ⟨dB,0,none⟩) a0.Ports.length a0.Ports.length,.slice none 0 0]) rfl Ze9 (hS.blk 0 rfl) rfl (by simp [(((hS.own 3 rfl).slr rfl (fun _ _=>rfl))).one,(((hS.own 2 rfl).slr rfl (fun _ _=>rfl))).one,((hS.deepSl 1 rfl)).one]) (by kernel_rfl) (.inl (fun h=>absurd h (Nat.not_lt.2 cA))) ?_
        clear H;intro mL hN fH hz;clear a;intro a H;replace hS:=hS.setBlk hN fH;clear hN hz;replace hW:=Nat.le_trans hW fH.size
        refine Qx (by kernel_rfl) ?_
        refine Za ?_
        obtain rfl:=Option.some.inj hm;replace hm:=aC;try dsimp only at hm
        replace hS:=hS.pk1
        replace hS:=hS.pk2
        replace hS:=hS.pk3
        replace hS:=hS.pk3
        replace hS:=hS.pk5
        replace hS:=hS.pk6
        replace hS:=hS.tk6
        exact Wh ((List.replicate a0.Events.toNat false),aD,(List.replicate a0.Ports.length (⟨([] : List ByteArray),0⟩ : GPort)),.slice (some ⟨aJ,0,none⟩) a0.Events.toNat a0.Events.toNat,dA,.slice (some ⟨dB,0,none⟩) a0.Ports.length a0.Ports.length,cZ) H ⟨rfl,rfl,rfl,trivial⟩ ⟨hm,hS⟩
      refine Gl (L:=a0.Ports.length) (C:=a0.Ports.length) 11 H rfl Tryz.underlying31 Zd9 rfl rfl (Nat.le_refl _) aG (by simp only [maxLen];omega) rfl ?_
      clear H;intro dC mM hN fI hs;clear a;intro a H;replace hS:=hS.newOwn hN fI (by simp [Wa];omega);clear hN
      replace hS:=St.mkDeep0 (R:=Wu) (z0:=(⟨([] : List ByteArray),0⟩ : GPort)) (n:=a0.Ports.length) rfl (by simp) (fun w=>⟨_,rfl,SlR.nil _ _ _⟩) hS
      replace hW:=Nat.le_trans hW fI.size
      refine Xu 7 (by kernel_rfl) ?_
      refine Xy 7 H rfl rfl Zea (Qe (A:=A) (aB.ext (Zq.mono _) hS.x) aF) rfl (fun v w hv=>.inl (ChgF.of_ext (by obtain⟨_,_,hE0⟩:=hv;exact hE0.x))) ?_
      clear H;intro dD mN hv;clear a;intro a H;obtain⟨_,rfl,fJ⟩:=hv
      replace hS:=hS.new fJ;simp only [List.cons_append,List.nil_append] at hS
      replace hW:=Nat.le_trans hW fJ.x.size
      refine Zg 12 H rfl (Zz (cs:=[.int .i64 a0.Id,.int .i64 0,.int .i64 0,.slice none 0 0,.slice none 0 0,.slice none 0 0,.slice (some ⟨aJ,0,none⟩) a0.Events.toNat a0.Events.toNat,dD,.slice (some ⟨dC,0,none⟩) a0.Ports.length a0.Ports.length,.slice none 0 0]) Zcd Zg4 Zg5 rfl ((Qh rfl rfl (by simp)).trans ((Qh (((hS.own 3 rfl).slr rfl (fun _ _=>rfl))).one rfl (by simp)).trans ((Qh (((hS.own 0 rfl).slr rfl (fun _ _=>rfl))).one rfl (by simp)).trans ((Qh ((hS.deepSl 1 rfl)).one rfl (by simp)).trans rfl))))) rfl (by kernel_rfl) (by kernel_rfl) (by kernel_rfl) (by kernel_rfl) (fun _ _ _ h=>h) ?_;clear H a;intro a H
      replace hS:=hS.pk2
      refine Qj 14 H rfl rfl rfl (vs:=[.int .i64 a0.Id,.int .i64 0,.int .i64 0,.slice none 0 0,.slice none 0 0,.slice none 0 0,.slice (some ⟨aJ,0,none⟩) a0.Events.toNat a0.Events.toNat,dD,.slice (some ⟨dC,0,none⟩) a0.Ports.length a0.Ports.length,.slice none 0 0]) rfl Ze9 (hS.blk 0 rfl) rfl (by simp [(((hS.own 3 rfl).slr rfl (fun _ _=>rfl))).one,(((hS.own 1 rfl).slr rfl (fun _ _=>rfl))).one,((hS.deepSl 2 rfl)).one]) (by kernel_rfl) (.inl (fun h=>absurd h (Nat.not_lt.2 cA))) ?_
      clear H;intro mO hN fK hz;clear a;intro a H;replace hS:=hS.setBlk hN fK;clear hN hz;replace hW:=Nat.le_trans hW fK.size
      refine Qx (by kernel_rfl) ?_
      refine Za ?_
      obtain rfl:=Option.some.inj hm;replace hm:=aC;try dsimp only at hm
      replace hS:=hS.pk2
      replace hS:=hS.pk2
      replace hS:=hS.pk3
      replace hS:=hS.pk3
      replace hS:=hS.pk5
      replace hS:=hS.pk6
      replace hS:=hS.tk6
      exact Wh ((List.replicate a0.Events.toNat false),aD,(List.replicate a0.Ports.length (⟨([] : List ByteArray),0⟩ : GPort)),.slice (some ⟨aJ,0,none⟩) a0.Events.toNat a0.Events.toNat,dD,.slice (some ⟨dC,0,none⟩) a0.Ports.length a0.Ports.length,cZ) H ⟨rfl,rfl,rfl,trivial⟩ ⟨hm,hS⟩
    · skip
      refine Xy 7 H rfl rfl Zea (Qe (A:=A) (aB.ext (Zq.mono _) hS.x) aF) rfl (fun v w hv=>.inl (ChgF.of_ext (by obtain⟨_,_,hE0⟩:=hv;exact hE0.x))) ?_
      clear H;intro aK mP hv;clear a;intro a H;obtain⟨_,rfl,fL⟩:=hv
      replace hS:=hS.new fL;simp only [List.cons_append,List.nil_append] at hS
      replace hW:=Nat.le_trans hW fL.x.size
      refine Zjk 4 11 13 (by kernel_rfl) ?_ ?_ ?_
      · skip
        refine Wc (e:=eF) (z0:=false) (L:=a0.Events.toNat) (C:=a0.Events.toNat) 4 H rfl Tryz.underlying30 el4 rfl (by show _=some (Value.int .i64 ((Int.toNat a0.Events : Nat) : Int));rw [Int.toNat_of_nonneg aA];rfl) (by show _=some (Value.int .i64 ((Int.toNat a0.Events : Nat) : Int));rw [Int.toNat_of_nonneg aA];rfl) (Nat.le_refl _) aE (by simp only [maxLen];omega) rfl ?_
        clear H;intro bQ mQ hN fM hs;clear a;intro a H;replace hS:=hS.newOwn hN fM (by simp [Wa];omega);clear hN
        replace hW:=Nat.le_trans hW fM.size
        refine Zg0 11 13 (by kernel_rfl) ?_ ?_
        · skip
          refine Gl (L:=a0.Ports.length) (C:=a0.Ports.length) 11 H rfl Tryz.underlying31 Zd9 rfl rfl (Nat.le_refl _) aG (by simp only [maxLen];omega) rfl ?_
          clear H;intro dE mR hN fN hs;clear a;intro a H;replace hS:=hS.newOwn hN fN (by simp [Wa];omega);clear hN
          replace hS:=St.mkDeep0 (R:=Wu) (z0:=(⟨([] : List ByteArray),0⟩ : GPort)) (n:=a0.Ports.length) rfl (by simp) (fun w=>⟨_,rfl,SlR.nil _ _ _⟩) hS
          replace hW:=Nat.le_trans hW fN.size
          refine Zg 12 H rfl (Zz (cs:=[.int .i64 a0.Id,.int .i64 0,.int .i64 0,.slice none 0 0,.slice none 0 0,.slice none 0 0,.slice (some ⟨bQ,0,none⟩) a0.Events.toNat a0.Events.toNat,aK,.slice (some ⟨dE,0,none⟩) a0.Ports.length a0.Ports.length,.slice none 0 0]) Zcd Zg4 Zg5 rfl ((Qh rfl rfl (by simp)).trans ((Qh (((hS.own 1 rfl).slr rfl (fun _ _=>rfl))).one rfl (by simp)).trans ((Qh (((hS.own 2 rfl).slr rfl (fun _ _=>rfl))).one rfl (by simp)).trans ((Qh ((hS.deepSl 0 rfl)).one rfl (by simp)).trans rfl))))) rfl (by kernel_rfl) (by kernel_rfl) (by kernel_rfl) (by kernel_rfl) (fun _ _ _ h=>h) ?_;clear H a;intro a H
          refine Zf7 13 H rfl Zcd rfl (by kernel_rfl) ?_
          clear H;intro i3 mS hN fO hs;clear a;intro a H
          have dF : aI.heap.size ≤ i3:=hs ▸ hW
          replace hS:=hS.newBlk hN fO hs;clear hN hs
          replace hW:=Nat.le_trans hW fO.size
          refine Qj 14 H rfl rfl rfl (vs:=[.int .i64 a0.Id,.int .i64 0,.int .i64 0,.slice none 0 0,.slice none 0 0,.slice none 0 0,.slice (some ⟨bQ,0,none⟩) a0.Events.toNat a0.Events.toNat,aK,.slice (some ⟨dE,0,none⟩) a0.Ports.length a0.Ports.length,.slice none 0 0]) rfl Ze9 (hS.blk 0 rfl) rfl (by simp [(((hS.own 2 rfl).slr rfl (fun _ _=>rfl))).one,(((hS.own 3 rfl).slr rfl (fun _ _=>rfl))).one,((hS.deepSl 1 rfl)).one]) (by kernel_rfl) (.inl (fun h=>absurd h (Nat.not_lt.2 dF))) ?_
          clear H;intro mT hN fP hz;clear a;intro a H;replace hS:=hS.setBlk hN fP;clear hN hz;replace hW:=Nat.le_trans hW fP.size
          refine Qx (by kernel_rfl) ?_
          refine Za ?_
          obtain rfl:=Option.some.inj hm;replace hm:=aC;try dsimp only at hm
          replace hS:=hS.pk1
          replace hS:=hS.pk3
          replace hS:=hS.pk3
          replace hS:=hS.pk3
          replace hS:=hS.pk5
          replace hS:=hS.pk6
          replace hS:=hS.tk6
          exact Wh ((List.replicate a0.Events.toNat false),aD,(List.replicate a0.Ports.length (⟨([] : List ByteArray),0⟩ : GPort)),.slice (some ⟨bQ,0,none⟩) a0.Events.toNat a0.Events.toNat,aK,.slice (some ⟨dE,0,none⟩) a0.Ports.length a0.Ports.length,i3) H ⟨rfl,rfl,rfl,trivial⟩ ⟨hm,hS⟩
        refine Zae 13 H rfl Zcd rfl ?_
        clear H;intro i4 mU hN fQ hs;clear a;intro a H
        have dG : aI.heap.size ≤ i4:=hs ▸ hW
        replace hS:=hS.newBlk hN fQ hs;clear hN hs
        replace hW:=Nat.le_trans hW fQ.size
        refine Xu 11 (by kernel_rfl) ?_
        refine Gl (L:=a0.Ports.length) (C:=a0.Ports.length) 11 H rfl Tryz.underlying31 Zd9 rfl rfl (Nat.le_refl _) aG (by simp only [maxLen];omega) rfl ?_
        clear H;intro dH mV hN fR hs;clear a;intro a H;replace hS:=hS.newOwn hN fR (by simp [Wa];omega);clear hN
        replace hS:=St.mkDeep0 (R:=Wu) (z0:=(⟨([] : List ByteArray),0⟩ : GPort)) (n:=a0.Ports.length) rfl (by simp) (fun w=>⟨_,rfl,SlR.nil _ _ _⟩) hS
        replace hW:=Nat.le_trans hW fR.size
        refine Zg 12 H rfl (Zz (cs:=[.int .i64 a0.Id,.int .i64 0,.int .i64 0,.slice none 0 0,.slice none 0 0,.slice none 0 0,.slice (some ⟨bQ,0,none⟩) a0.Events.toNat a0.Events.toNat,aK,.slice (some ⟨dH,0,none⟩) a0.Ports.length a0.Ports.length,.slice none 0 0]) Zcd Zg4 Zg5 rfl ((Qh rfl rfl (by simp)).trans ((Qh (((hS.own 2 rfl).slr rfl (fun _ _=>rfl))).one rfl (by simp)).trans ((Qh (((hS.own 3 rfl).slr rfl (fun _ _=>rfl))).one rfl (by simp)).trans ((Qh ((hS.deepSl 0 rfl)).one rfl (by simp)).trans rfl))))) rfl (by kernel_rfl) (by kernel_rfl) (by kernel_rfl) (by kernel_rfl) (fun _ _ _ h=>h) ?_;clear H a;intro a H
        replace hS:=hS.pk1
        refine Qj 14 H rfl rfl rfl (vs:=[.int .i64 a0.Id,.int .i64 0,.int .i64 0,.slice none 0 0,.slice none 0 0,.slice none 0 0,.slice (some ⟨bQ,0,none⟩) a0.Events.toNat a0.Events.toNat,aK,.slice (some ⟨dH,0,none⟩) a0.Ports.length a0.Ports.length,.slice none 0 0]) rfl Ze9 (hS.blk 0 rfl) rfl (by simp [(((hS.own 2 rfl).slr rfl (fun _ _=>rfl))).one,(((hS.own 3 rfl).slr rfl (fun _ _=>rfl))).one,((hS.deepSl 1 rfl)).one]) (by kernel_rfl) (.inl (fun h=>absurd h (Nat.not_lt.2 dG))) ?_
        clear H;intro mW hN fS hz;clear a;intro a H;replace hS:=hS.setBlk hN fS;clear hN hz;replace hW:=Nat.le_trans hW fS.size
        refine Qx (by kernel_rfl) ?_
        refine Za ?_
        obtain rfl:=Option.some.inj hm;replace hm:=aC;try dsimp only at hm
        replace hS:=hS.pk1
        replace hS:=hS.pk3
        replace hS:=hS.pk3
        replace hS:=hS.pk3
        replace hS:=hS.pk5
        replace hS:=hS.pk6
        replace hS:=hS.tk6
        exact Wh ((List.replicate a0.Events.toNat false),aD,(List.replicate a0.Ports.length (⟨([] : List ByteArray),0⟩ : GPort)),.slice (some ⟨bQ,0,none⟩) a0.Events.toNat a0.Events.toNat,aK,.slice (some ⟨dH,0,none⟩) a0.Ports.length a0.Ports.length,i4) H ⟨rfl,rfl,rfl,trivial⟩ ⟨hm,hS⟩
      · skip
        refine Gl (L:=a0.Ports.length) (C:=a0.Ports.length) 11 H rfl Tryz.underlying31 Zd9 rfl rfl (Nat.le_refl _) aG (by simp only [maxLen];omega) rfl ?_
        clear H;intro bR mX hN fT hs;clear a;intro a H;replace hS:=hS.newOwn hN fT (by simp [Wa];omega);clear hN
        replace hS:=St.mkDeep0 (R:=Wu) (z0:=(⟨([] : List ByteArray),0⟩ : GPort)) (n:=a0.Ports.length) rfl (by simp) (fun w=>⟨_,rfl,SlR.nil _ _ _⟩) hS
        replace hW:=Nat.le_trans hW fT.size
        refine Zg0 4 13 (by kernel_rfl) ?_ ?_
        · skip
          refine Wc (e:=eF) (z0:=false) (L:=a0.Events.toNat) (C:=a0.Events.toNat) 4 H rfl Tryz.underlying30 el4 rfl (by show _=some (Value.int .i64 ((Int.toNat a0.Events : Nat) : Int));rw [Int.toNat_of_nonneg aA];rfl) (by show _=some (Value.int .i64 ((Int.toNat a0.Events : Nat) : Int));rw [Int.toNat_of_nonneg aA];rfl) (Nat.le_refl _) aE (by simp only [maxLen];omega) rfl ?_
          clear H;intro dI mY hN fU hs;clear a;intro a H;replace hS:=hS.newOwn hN fU (by simp [Wa];omega);clear hN
          replace hW:=Nat.le_trans hW fU.size
          refine Zg 12 H rfl (Zz (cs:=[.int .i64 a0.Id,.int .i64 0,.int .i64 0,.slice none 0 0,.slice none 0 0,.slice none 0 0,.slice (some ⟨dI,0,none⟩) a0.Events.toNat a0.Events.toNat,aK,.slice (some ⟨bR,0,none⟩) a0.Ports.length a0.Ports.length,.slice none 0 0]) Zcd Zg4 Zg5 rfl ((Qh rfl rfl (by simp)).trans ((Qh (((hS.own 0 rfl).slr rfl (fun _ _=>rfl))).one rfl (by simp)).trans ((Qh (((hS.own 2 rfl).slr rfl (fun _ _=>rfl))).one rfl (by simp)).trans ((Qh ((hS.deepSl 1 rfl)).one rfl (by simp)).trans rfl))))) rfl (by kernel_rfl) (by kernel_rfl) (by kernel_rfl) (by kernel_rfl) (fun _ _ _ h=>h) ?_;clear H a;intro a H
          refine Zf7 13 H rfl Zcd rfl (by kernel_rfl) ?_
          clear H;intro i5 mZ hN fV hs;clear a;intro a H
          have dJ : aI.heap.size ≤ i5:=hs ▸ hW
          replace hS:=hS.newBlk hN fV hs;clear hN hs
          replace hW:=Nat.le_trans hW fV.size
          refine Qj 14 H rfl rfl rfl (vs:=[.int .i64 a0.Id,.int .i64 0,.int .i64 0,.slice none 0 0,.slice none 0 0,.slice none 0 0,.slice (some ⟨dI,0,none⟩) a0.Events.toNat a0.Events.toNat,aK,.slice (some ⟨bR,0,none⟩) a0.Ports.length a0.Ports.length,.slice none 0 0]) rfl Ze9 (hS.blk 0 rfl) rfl (by simp [(((hS.own 1 rfl).slr rfl (fun _ _=>rfl))).one,(((hS.own 3 rfl).slr rfl (fun _ _=>rfl))).one,((hS.deepSl 2 rfl)).one]) (by kernel_rfl) (.inl (fun h=>absurd h (Nat.not_lt.2 dJ))) ?_
          clear H;intro m5 hN fW hz;clear a;intro a H;replace hS:=hS.setBlk hN fW;clear hN hz;replace hW:=Nat.le_trans hW fW.size
          refine Qx (by kernel_rfl) ?_
          refine Za ?_
          obtain rfl:=Option.some.inj hm;replace hm:=aC;try dsimp only at hm
          replace hS:=hS.pk2
          replace hS:=hS.pk3
          replace hS:=hS.pk3
          replace hS:=hS.pk3
          replace hS:=hS.pk5
          replace hS:=hS.pk6
          replace hS:=hS.tk6
          exact Wh ((List.replicate a0.Events.toNat false),aD,(List.replicate a0.Ports.length (⟨([] : List ByteArray),0⟩ : GPort)),.slice (some ⟨dI,0,none⟩) a0.Events.toNat a0.Events.toNat,aK,.slice (some ⟨bR,0,none⟩) a0.Ports.length a0.Ports.length,i5) H ⟨rfl,rfl,rfl,trivial⟩ ⟨hm,hS⟩
        refine Zae 13 H rfl Zcd rfl ?_
        clear H;intro i6 m6 hN fX hs;clear a;intro a H
        have dK : aI.heap.size ≤ i6:=hs ▸ hW
        replace hS:=hS.newBlk hN fX hs;clear hN hs
        replace hW:=Nat.le_trans hW fX.size
        refine Xu 4 (by kernel_rfl) ?_
        refine Wc (e:=eF) (z0:=false) (L:=a0.Events.toNat) (C:=a0.Events.toNat) 4 H rfl Tryz.underlying30 el4 rfl (by show _=some (Value.int .i64 ((Int.toNat a0.Events : Nat) : Int));rw [Int.toNat_of_nonneg aA];rfl) (by show _=some (Value.int .i64 ((Int.toNat a0.Events : Nat) : Int));rw [Int.toNat_of_nonneg aA];rfl) (Nat.le_refl _) aE (by simp only [maxLen];omega) rfl ?_
        clear H;intro dL m7 hN fY hs;clear a;intro a H;replace hS:=hS.newOwn hN fY (by simp [Wa];omega);clear hN
        replace hW:=Nat.le_trans hW fY.size
        refine Zg 12 H rfl (Zz (cs:=[.int .i64 a0.Id,.int .i64 0,.int .i64 0,.slice none 0 0,.slice none 0 0,.slice none 0 0,.slice (some ⟨dL,0,none⟩) a0.Events.toNat a0.Events.toNat,aK,.slice (some ⟨bR,0,none⟩) a0.Ports.length a0.Ports.length,.slice none 0 0]) Zcd Zg4 Zg5 rfl ((Qh rfl rfl (by simp)).trans ((Qh (((hS.own 0 rfl).slr rfl (fun _ _=>rfl))).one rfl (by simp)).trans ((Qh (((hS.own 3 rfl).slr rfl (fun _ _=>rfl))).one rfl (by simp)).trans ((Qh ((hS.deepSl 2 rfl)).one rfl (by simp)).trans rfl))))) rfl (by kernel_rfl) (by kernel_rfl) (by kernel_rfl) (by kernel_rfl) (fun _ _ _ h=>h) ?_;clear H a;intro a H
        replace hS:=hS.pk1
        refine Qj 14 H rfl rfl rfl (vs:=[.int .i64 a0.Id,.int .i64 0,.int .i64 0,.slice none 0 0,.slice none 0 0,.slice none 0 0,.slice (some ⟨dL,0,none⟩) a0.Events.toNat a0.Events.toNat,aK,.slice (some ⟨bR,0,none⟩) a0.Ports.length a0.Ports.length,.slice none 0 0]) rfl Ze9 (hS.blk 0 rfl) rfl (by simp [(((hS.own 1 rfl).slr rfl (fun _ _=>rfl))).one,(((hS.own 3 rfl).slr rfl (fun _ _=>rfl))).one,((hS.deepSl 2 rfl)).one]) (by kernel_rfl) (.inl (fun h=>absurd h (Nat.not_lt.2 dK))) ?_
        clear H;intro m8 hN fZ hz;clear a;intro a H;replace hS:=hS.setBlk hN fZ;clear hN hz;replace hW:=Nat.le_trans hW fZ.size
        refine Qx (by kernel_rfl) ?_
        refine Za ?_
        obtain rfl:=Option.some.inj hm;replace hm:=aC;try dsimp only at hm
        replace hS:=hS.pk2
        replace hS:=hS.pk3
        replace hS:=hS.pk3
        replace hS:=hS.pk3
        replace hS:=hS.pk5
        replace hS:=hS.pk6
        replace hS:=hS.tk6
        exact Wh ((List.replicate a0.Events.toNat false),aD,(List.replicate a0.Ports.length (⟨([] : List ByteArray),0⟩ : GPort)),.slice (some ⟨dL,0,none⟩) a0.Events.toNat a0.Events.toNat,aK,.slice (some ⟨bR,0,none⟩) a0.Ports.length a0.Ports.length,i6) H ⟨rfl,rfl,rfl,trivial⟩ ⟨hm,hS⟩
      refine Zae 13 H rfl Zcd rfl ?_
      clear H;intro dM m9 hN gA hs;clear a;intro a H
      have cB : aI.heap.size ≤ dM:=hs ▸ hW
      replace hS:=hS.newBlk hN gA hs;clear hN hs
      replace hW:=Nat.le_trans hW gA.size
      refine Zg0 4 11 (by kernel_rfl) ?_ ?_
      · skip
        refine Wc (e:=eF) (z0:=false) (L:=a0.Events.toNat) (C:=a0.Events.toNat) 4 H rfl Tryz.underlying30 el4 rfl (by show _=some (Value.int .i64 ((Int.toNat a0.Events : Nat) : Int));rw [Int.toNat_of_nonneg aA];rfl) (by show _=some (Value.int .i64 ((Int.toNat a0.Events : Nat) : Int));rw [Int.toNat_of_nonneg aA];rfl) (Nat.le_refl _) aE (by simp only [maxLen];omega) rfl ?_
        clear H;intro dN nA hN gB hs;clear a;intro a H;replace hS:=hS.newOwn hN gB (by simp [Wa];omega);clear hN
        replace hW:=Nat.le_trans hW gB.size
        refine Xu 11 (by kernel_rfl) ?_
        refine Gl (L:=a0.Ports.length) (C:=a0.Ports.length) 11 H rfl Tryz.underlying31 Zd9 rfl rfl (Nat.le_refl _) aG (by simp only [maxLen];omega) rfl ?_
        clear H;intro dO nB hN gC hs;clear a;intro a H;replace hS:=hS.newOwn hN gC (by simp [Wa];omega);clear hN
        replace hS:=St.mkDeep0 (R:=Wu) (z0:=(⟨([] : List ByteArray),0⟩ : GPort)) (n:=a0.Ports.length) rfl (by simp) (fun w=>⟨_,rfl,SlR.nil _ _ _⟩) hS
        replace hW:=Nat.le_trans hW gC.size
        refine Zg 12 H rfl (Zz (cs:=[.int .i64 a0.Id,.int .i64 0,.int .i64 0,.slice none 0 0,.slice none 0 0,.slice none 0 0,.slice (some ⟨dN,0,none⟩) a0.Events.toNat a0.Events.toNat,aK,.slice (some ⟨dO,0,none⟩) a0.Ports.length a0.Ports.length,.slice none 0 0]) Zcd Zg4 Zg5 rfl ((Qh rfl rfl (by simp)).trans ((Qh (((hS.own 1 rfl).slr rfl (fun _ _=>rfl))).one rfl (by simp)).trans ((Qh (((hS.own 3 rfl).slr rfl (fun _ _=>rfl))).one rfl (by simp)).trans ((Qh ((hS.deepSl 0 rfl)).one rfl (by simp)).trans rfl))))) rfl (by kernel_rfl) (by kernel_rfl) (by kernel_rfl) (by kernel_rfl) (fun _ _ _ h=>h) ?_;clear H a;intro a H
        replace hS:=hS.pk2
        refine Qj 14 H rfl rfl rfl (vs:=[.int .i64 a0.Id,.int .i64 0,.int .i64 0,.slice none 0 0,.slice none 0 0,.slice none 0 0,.slice (some ⟨dN,0,none⟩) a0.Events.toNat a0.Events.toNat,aK,.slice (some ⟨dO,0,none⟩) a0.Ports.length a0.Ports.length,.slice none 0 0]) rfl Ze9 (hS.blk 0 rfl) rfl (by simp [(((hS.own 2 rfl).slr rfl (fun _ _=>rfl))).one,(((hS.own 3 rfl).slr rfl (fun _ _=>rfl))).one,((hS.deepSl 1 rfl)).one]) (by kernel_rfl) (.inl (fun h=>absurd h (Nat.not_lt.2 cB))) ?_
        clear H;intro nC hN gD hz;clear a;intro a H;replace hS:=hS.setBlk hN gD;clear hN hz;replace hW:=Nat.le_trans hW gD.size
        refine Qx (by kernel_rfl) ?_
        refine Za ?_
        obtain rfl:=Option.some.inj hm;replace hm:=aC;try dsimp only at hm
        replace hS:=hS.pk1
        replace hS:=hS.pk3
        replace hS:=hS.pk3
        replace hS:=hS.pk3
        replace hS:=hS.pk5
        replace hS:=hS.pk6
        replace hS:=hS.tk6
        exact Wh ((List.replicate a0.Events.toNat false),aD,(List.replicate a0.Ports.length (⟨([] : List ByteArray),0⟩ : GPort)),.slice (some ⟨dN,0,none⟩) a0.Events.toNat a0.Events.toNat,aK,.slice (some ⟨dO,0,none⟩) a0.Ports.length a0.Ports.length,dM) H ⟨rfl,rfl,rfl,trivial⟩ ⟨hm,hS⟩
      refine Gl (L:=a0.Ports.length) (C:=a0.Ports.length) 11 H rfl Tryz.underlying31 Zd9 rfl rfl (Nat.le_refl _) aG (by simp only [maxLen];omega) rfl ?_
      clear H;intro dP nD hN gE hs;clear a;intro a H;replace hS:=hS.newOwn hN gE (by simp [Wa];omega);clear hN
      replace hS:=St.mkDeep0 (R:=Wu) (z0:=(⟨([] : List ByteArray),0⟩ : GPort)) (n:=a0.Ports.length) rfl (by simp) (fun w=>⟨_,rfl,SlR.nil _ _ _⟩) hS
      replace hW:=Nat.le_trans hW gE.size
      refine Xu 4 (by kernel_rfl) ?_
      refine Wc (e:=eF) (z0:=false) (L:=a0.Events.toNat) (C:=a0.Events.toNat) 4 H rfl Tryz.underlying30 el4 rfl (by show _=some (Value.int .i64 ((Int.toNat a0.Events : Nat) : Int));rw [Int.toNat_of_nonneg aA];rfl) (by show _=some (Value.int .i64 ((Int.toNat a0.Events : Nat) : Int));rw [Int.toNat_of_nonneg aA];rfl) (Nat.le_refl _) aE (by simp only [maxLen];omega) rfl ?_
      clear H;intro dQ nE hN gF hs;clear a;intro a H;replace hS:=hS.newOwn hN gF (by simp [Wa];omega);clear hN
      replace hW:=Nat.le_trans hW gF.size
      refine Zg 12 H rfl (Zz (cs:=[.int .i64 a0.Id,.int .i64 0,.int .i64 0,.slice none 0 0,.slice none 0 0,.slice none 0 0,.slice (some ⟨dQ,0,none⟩) a0.Events.toNat a0.Events.toNat,aK,.slice (some ⟨dP,0,none⟩) a0.Ports.length a0.Ports.length,.slice none 0 0]) Zcd Zg4 Zg5 rfl ((Qh rfl rfl (by simp)).trans ((Qh (((hS.own 0 rfl).slr rfl (fun _ _=>rfl))).one rfl (by simp)).trans ((Qh (((hS.own 3 rfl).slr rfl (fun _ _=>rfl))).one rfl (by simp)).trans ((Qh ((hS.deepSl 1 rfl)).one rfl (by simp)).trans rfl))))) rfl (by kernel_rfl) (by kernel_rfl) (by kernel_rfl) (by kernel_rfl) (fun _ _ _ h=>h) ?_;clear H a;intro a H
      replace hS:=hS.pk2
      refine Qj 14 H rfl rfl rfl (vs:=[.int .i64 a0.Id,.int .i64 0,.int .i64 0,.slice none 0 0,.slice none 0 0,.slice none 0 0,.slice (some ⟨dQ,0,none⟩) a0.Events.toNat a0.Events.toNat,aK,.slice (some ⟨dP,0,none⟩) a0.Ports.length a0.Ports.length,.slice none 0 0]) rfl Ze9 (hS.blk 0 rfl) rfl (by simp [(((hS.own 1 rfl).slr rfl (fun _ _=>rfl))).one,(((hS.own 3 rfl).slr rfl (fun _ _=>rfl))).one,((hS.deepSl 2 rfl)).one]) (by kernel_rfl) (.inl (fun h=>absurd h (Nat.not_lt.2 cB))) ?_
      clear H;intro nF hN gG hz;clear a;intro a H;replace hS:=hS.setBlk hN gG;clear hN hz;replace hW:=Nat.le_trans hW gG.size
      refine Qx (by kernel_rfl) ?_
      refine Za ?_
      obtain rfl:=Option.some.inj hm;replace hm:=aC;try dsimp only at hm
      replace hS:=hS.pk2
      replace hS:=hS.pk3
      replace hS:=hS.pk3
      replace hS:=hS.pk3
      replace hS:=hS.pk5
      replace hS:=hS.pk6
      replace hS:=hS.tk6
      exact Wh ((List.replicate a0.Events.toNat false),aD,(List.replicate a0.Ports.length (⟨([] : List ByteArray),0⟩ : GPort)),.slice (some ⟨dQ,0,none⟩) a0.Events.toNat a0.Events.toNat,aK,.slice (some ⟨dP,0,none⟩) a0.Ports.length a0.Ports.length,dM) H ⟨rfl,rfl,rfl,trivial⟩ ⟨hm,hS⟩
    · skip
      refine Gl (L:=a0.Ports.length) (C:=a0.Ports.length) 11 H rfl Tryz.underlying31 Zd9 rfl rfl (Nat.le_refl _) aG (by simp only [maxLen];omega) rfl ?_
      clear H;intro aL nG hN gH hs;clear a;intro a H;replace hS:=hS.newOwn hN gH (by simp [Wa];omega);clear hN
      replace hS:=St.mkDeep0 (R:=Wu) (z0:=(⟨([] : List ByteArray),0⟩ : GPort)) (n:=a0.Ports.length) rfl (by simp) (fun w=>⟨_,rfl,SlR.nil _ _ _⟩) hS
      replace hW:=Nat.le_trans hW gH.size
      refine Zjk 4 7 13 (by kernel_rfl) ?_ ?_ ?_
      · skip
        refine Wc (e:=eF) (z0:=false) (L:=a0.Events.toNat) (C:=a0.Events.toNat) 4 H rfl Tryz.underlying30 el4 rfl (by show _=some (Value.int .i64 ((Int.toNat a0.Events : Nat) : Int));rw [Int.toNat_of_nonneg aA];rfl) (by show _=some (Value.int .i64 ((Int.toNat a0.Events : Nat) : Int));rw [Int.toNat_of_nonneg aA];rfl) (Nat.le_refl _) aE (by simp only [maxLen];omega) rfl ?_
        clear H;intro bS nH hN gI hs;clear a;intro a H;replace hS:=hS.newOwn hN gI (by simp [Wa];omega);clear hN
        replace hW:=Nat.le_trans hW gI.size
        refine Zg0 7 13 (by kernel_rfl) ?_ ?_
        · skip
          refine Xy 7 H rfl rfl Zea (Qe (A:=A) (aB.ext (Zq.mono _) hS.x) aF) rfl (fun v w hv=>.inl (ChgF.of_ext (by obtain⟨_,_,hE0⟩:=hv;exact hE0.x))) ?_
          clear H;intro dR nI hv;clear a;intro a H;obtain⟨_,rfl,gJ⟩:=hv
          replace hS:=hS.new gJ;simp only [List.cons_append,List.nil_append] at hS
          replace hW:=Nat.le_trans hW gJ.x.size
          refine Zg 12 H rfl (Zz (cs:=[.int .i64 a0.Id,.int .i64 0,.int .i64 0,.slice none 0 0,.slice none 0 0,.slice none 0 0,.slice (some ⟨bS,0,none⟩) a0.Events.toNat a0.Events.toNat,dR,.slice (some ⟨aL,0,none⟩) a0.Ports.length a0.Ports.length,.slice none 0 0]) Zcd Zg4 Zg5 rfl ((Qh rfl rfl (by simp)).trans ((Qh (((hS.own 1 rfl).slr rfl (fun _ _=>rfl))).one rfl (by simp)).trans ((Qh (((hS.own 0 rfl).slr rfl (fun _ _=>rfl))).one rfl (by simp)).trans ((Qh ((hS.deepSl 2 rfl)).one rfl (by simp)).trans rfl))))) rfl (by kernel_rfl) (by kernel_rfl) (by kernel_rfl) (by kernel_rfl) (fun _ _ _ h=>h) ?_;clear H a;intro a H
          refine Zf7 13 H rfl Zcd rfl (by kernel_rfl) ?_
          clear H;intro i7 nJ hN gK hs;clear a;intro a H
          have dS : aI.heap.size ≤ i7:=hs ▸ hW
          replace hS:=hS.newBlk hN gK hs;clear hN hs
          replace hW:=Nat.le_trans hW gK.size
          refine Qj 14 H rfl rfl rfl (vs:=[.int .i64 a0.Id,.int .i64 0,.int .i64 0,.slice none 0 0,.slice none 0 0,.slice none 0 0,.slice (some ⟨bS,0,none⟩) a0.Events.toNat a0.Events.toNat,dR,.slice (some ⟨aL,0,none⟩) a0.Ports.length a0.Ports.length,.slice none 0 0]) rfl Ze9 (hS.blk 0 rfl) rfl (by simp [(((hS.own 2 rfl).slr rfl (fun _ _=>rfl))).one,(((hS.own 1 rfl).slr rfl (fun _ _=>rfl))).one,((hS.deepSl 3 rfl)).one]) (by kernel_rfl) (.inl (fun h=>absurd h (Nat.not_lt.2 dS))) ?_
          clear H;intro nK hN gL hz;clear a;intro a H;replace hS:=hS.setBlk hN gL;clear hN hz;replace hW:=Nat.le_trans hW gL.size
          refine Qx (by kernel_rfl) ?_
          refine Za ?_
          obtain rfl:=Option.some.inj hm;replace hm:=aC;try dsimp only at hm
          replace hS:=hS.pk3
          replace hS:=hS.pk2
          replace hS:=hS.pk3
          replace hS:=hS.pk3
          replace hS:=hS.pk5
          replace hS:=hS.pk6
          replace hS:=hS.tk6
          exact Wh ((List.replicate a0.Events.toNat false),aD,(List.replicate a0.Ports.length (⟨([] : List ByteArray),0⟩ : GPort)),.slice (some ⟨bS,0,none⟩) a0.Events.toNat a0.Events.toNat,dR,.slice (some ⟨aL,0,none⟩) a0.Ports.length a0.Ports.length,i7) H ⟨rfl,rfl,rfl,trivial⟩ ⟨hm,hS⟩
        refine Zae 13 H rfl Zcd rfl ?_
        clear H;intro i8 nL hN gM hs;clear a;intro a H
        have dT : aI.heap.size ≤ i8:=hs ▸ hW
        replace hS:=hS.newBlk hN gM hs;clear hN hs
        replace hW:=Nat.le_trans hW gM.size
        refine Xu 7 (by kernel_rfl) ?_
        refine Xy 7 H rfl rfl Zea (Qe (A:=A) (aB.ext (Zq.mono _) hS.x) aF) rfl (fun v w hv=>.inl (ChgF.of_ext (by obtain⟨_,_,hE0⟩:=hv;exact hE0.x))) ?_
        clear H;intro dU nM hv;clear a;intro a H;obtain⟨_,rfl,gN⟩:=hv
        replace hS:=hS.new gN;simp only [List.cons_append,List.nil_append] at hS
        replace hW:=Nat.le_trans hW gN.x.size
        refine Zg 12 H rfl (Zz (cs:=[.int .i64 a0.Id,.int .i64 0,.int .i64 0,.slice none 0 0,.slice none 0 0,.slice none 0 0,.slice (some ⟨bS,0,none⟩) a0.Events.toNat a0.Events.toNat,dU,.slice (some ⟨aL,0,none⟩) a0.Ports.length a0.Ports.length,.slice none 0 0]) Zcd Zg4 Zg5 rfl ((Qh rfl rfl (by simp)).trans ((Qh (((hS.own 2 rfl).slr rfl (fun _ _=>rfl))).one rfl (by simp)).trans ((Qh (((hS.own 0 rfl).slr rfl (fun _ _=>rfl))).one rfl (by simp)).trans ((Qh ((hS.deepSl 3 rfl)).one rfl (by simp)).trans rfl))))) rfl (by kernel_rfl) (by kernel_rfl) (by kernel_rfl) (by kernel_rfl) (fun _ _ _ h=>h) ?_;clear H a;intro a H
        replace hS:=hS.pk1
        refine Qj 14 H rfl rfl rfl (vs:=[.int .i64 a0.Id,.int .i64 0,.int .i64 0,.slice none 0 0,.slice none 0 0,.slice none 0 0,.slice (some ⟨bS,0,none⟩) a0.Events.toNat a0.Events.toNat,dU,.slice (some ⟨aL,0,none⟩) a0.Ports.length a0.Ports.length,.slice none 0 0]) rfl Ze9 (hS.blk 0 rfl) rfl (by simp [(((hS.own 2 rfl).slr rfl (fun _ _=>rfl))).one,(((hS.own 1 rfl).slr rfl (fun _ _=>rfl))).one,((hS.deepSl 3 rfl)).one]) (by kernel_rfl) (.inl (fun h=>absurd h (Nat.not_lt.2 dT))) ?_
        clear H;intro nN hN gO hz;clear a;intro a H;replace hS:=hS.setBlk hN gO;clear hN hz;replace hW:=Nat.le_trans hW gO.size
        refine Qx (by kernel_rfl) ?_
        refine Za ?_
        obtain rfl:=Option.some.inj hm;replace hm:=aC;try dsimp only at hm
        replace hS:=hS.pk3
        replace hS:=hS.pk2
        replace hS:=hS.pk3
        replace hS:=hS.pk3
        replace hS:=hS.pk5
        replace hS:=hS.pk6
        replace hS:=hS.tk6
        exact Wh ((List.replicate a0.Events.toNat false),aD,(List.replicate a0.Ports.length (⟨([] : List ByteArray),0⟩ : GPort)),.slice (some ⟨bS,0,none⟩) a0.Events.toNat a0.Events.toNat,dU,.slice (some ⟨aL,0,none⟩) a0.Ports.length a0.Ports.length,i8) H ⟨rfl,rfl,rfl,trivial⟩ ⟨hm,hS⟩
      · skip
        refine Xy 7 H rfl rfl Zea (Qe (A:=A) (aB.ext (Zq.mono _) hS.x) aF) rfl (fun v w hv=>.inl (ChgF.of_ext (by obtain⟨_,_,hE0⟩:=hv;exact hE0.x))) ?_
        clear H;intro bT nO hv;clear a;intro a H;obtain⟨_,rfl,gP⟩:=hv
        replace hS:=hS.new gP;simp only [List.cons_append,List.nil_append] at hS
        replace hW:=Nat.le_trans hW gP.x.size
        refine Zg0 4 13 (by kernel_rfl) ?_ ?_
        · skip
          refine Wc (e:=eF) (z0:=false) (L:=a0.Events.toNat) (C:=a0.Events.toNat) 4 H rfl Tryz.underlying30 el4 rfl (by show _=some (Value.int .i64 ((Int.toNat a0.Events : Nat) : Int));rw [Int.toNat_of_nonneg aA];rfl) (by show _=some (Value.int .i64 ((Int.toNat a0.Events : Nat) : Int));rw [Int.toNat_of_nonneg aA];rfl) (Nat.le_refl _) aE (by simp only [maxLen];omega) rfl ?_
          clear H;intro dV nP hN gQ hs;clear a;intro a H;replace hS:=hS.newOwn hN gQ (by simp [Wa];omega);clear hN
          replace hW:=Nat.le_trans hW gQ.size
          refine Zg 12 H rfl (Zz (cs:=[.int .i64 a0.Id,.int .i64 0,.int .i64 0,.slice none 0 0,.slice none 0 0,.slice none 0 0,.slice (some ⟨dV,0,none⟩) a0.Events.toNat a0.Events.toNat,bT,.slice (some ⟨aL,0,none⟩) a0.Ports.length a0.Ports.length,.slice none 0 0]) Zcd Zg4 Zg5 rfl ((Qh rfl rfl (by simp)).trans ((Qh (((hS.own 0 rfl).slr rfl (fun _ _=>rfl))).one rfl (by simp)).trans ((Qh (((hS.own 1 rfl).slr rfl (fun _ _=>rfl))).one rfl (by simp)).trans ((Qh ((hS.deepSl 2 rfl)).one rfl (by simp)).trans rfl))))) rfl (by kernel_rfl) (by kernel_rfl) (by kernel_rfl) (by kernel_rfl) (fun _ _ _ h=>h) ?_;clear H a;intro a H
          refine Zf7 13 H rfl Zcd rfl (by kernel_rfl) ?_
          clear H;intro i9 nQ hN gR hs;clear a;intro a H
          have dW : aI.heap.size ≤ i9:=hs ▸ hW
          replace hS:=hS.newBlk hN gR hs;clear hN hs
          replace hW:=Nat.le_trans hW gR.size
          refine Qj 14 H rfl rfl rfl (vs:=[.int .i64 a0.Id,.int .i64 0,.int .i64 0,.slice none 0 0,.slice none 0 0,.slice none 0 0,.slice (some ⟨dV,0,none⟩) a0.Events.toNat a0.Events.toNat,bT,.slice (some ⟨aL,0,none⟩) a0.Ports.length a0.Ports.length,.slice none 0 0]) rfl Ze9 (hS.blk 0 rfl) rfl (by simp [(((hS.own 1 rfl).slr rfl (fun _ _=>rfl))).one,(((hS.own 2 rfl).slr rfl (fun _ _=>rfl))).one,((hS.deepSl 3 rfl)).one]) (by kernel_rfl) (.inl (fun h=>absurd h (Nat.not_lt.2 dW))) ?_
          clear H;intro nR hN gS hz;clear a;intro a H;replace hS:=hS.setBlk hN gS;clear hN hz;replace hW:=Nat.le_trans hW gS.size
          refine Qx (by kernel_rfl) ?_
          refine Za ?_
          obtain rfl:=Option.some.inj hm;replace hm:=aC;try dsimp only at hm
          replace hS:=hS.pk3
          replace hS:=hS.pk3
          replace hS:=hS.pk3
          replace hS:=hS.pk3
          replace hS:=hS.pk5
          replace hS:=hS.pk6
          replace hS:=hS.tk6
          exact Wh ((List.replicate a0.Events.toNat false),aD,(List.replicate a0.Ports.length (⟨([] : List ByteArray),0⟩ : GPort)),.slice (some ⟨dV,0,none⟩) a0.Events.toNat a0.Events.toNat,bT,.slice (some ⟨aL,0,none⟩) a0.Ports.length a0.Ports.length,i9) H ⟨rfl,rfl,rfl,trivial⟩ ⟨hm,hS⟩
        refine Zae 13 H rfl Zcd rfl ?_
        clear H;intro jA nS hN gT hs;clear a;intro a H
        have dX : aI.heap.size ≤ jA:=hs ▸ hW
        replace hS:=hS.newBlk hN gT hs;clear hN hs
        replace hW:=Nat.le_trans hW gT.size
        refine Xu 4 (by kernel_rfl) ?_
        refine Wc (e:=eF) (z0:=false) (L:=a0.Events.toNat) (C:=a0.Events.toNat) 4 H rfl Tryz.underlying30 el4 rfl (by show _=some (Value.int .i64 ((Int.toNat a0.Events : Nat) : Int));rw [Int.toNat_of_nonneg aA];rfl) (by show _=some (Value.int .i64 ((Int.toNat a0.Events : Nat) : Int));rw [Int.toNat_of_nonneg aA];rfl) (Nat.le_refl _) aE (by simp only [maxLen];omega) rfl ?_
        clear H;intro dY nT hN gU hs;clear a;intro a H;replace hS:=hS.newOwn hN gU (by simp [Wa];omega);clear hN
        replace hW:=Nat.le_trans hW gU.size
        refine Zg 12 H rfl (Zz (cs:=[.int .i64 a0.Id,.int .i64 0,.int .i64 0,.slice none 0 0,.slice none 0 0,.slice none 0 0,.slice (some ⟨dY,0,none⟩) a0.Events.toNat a0.Events.toNat,bT,.slice (some ⟨aL,0,none⟩) a0.Ports.length a0.Ports.length,.slice none 0 0]) Zcd Zg4 Zg5 rfl ((Qh rfl rfl (by simp)).trans ((Qh (((hS.own 0 rfl).slr rfl (fun _ _=>rfl))).one rfl (by simp)).trans ((Qh (((hS.own 2 rfl).slr rfl (fun _ _=>rfl))).one rfl (by simp)).trans ((Qh ((hS.deepSl 3 rfl)).one rfl (by simp)).trans rfl))))) rfl (by kernel_rfl) (by kernel_rfl) (by kernel_rfl) (by kernel_rfl) (fun _ _ _ h=>h) ?_;clear H a;intro a H
        replace hS:=hS.pk1
        refine Qj 14 H rfl rfl rfl (vs:=[.int .i64 a0.Id,.int .i64 0,.int .i64 0,.slice none 0 0,.slice none 0 0,.slice none 0 0,.slice (some ⟨dY,0,none⟩) a0.Events.toNat a0.Events.toNat,bT,.slice (some ⟨aL,0,none⟩) a0.Ports.length a0.Ports.length,.slice none 0 0]) rfl Ze9 (hS.blk 0 rfl) rfl (by simp [(((hS.own 1 rfl).slr rfl (fun _ _=>rfl))).one,(((hS.own 2 rfl).slr rfl (fun _ _=>rfl))).one,((hS.deepSl 3 rfl)).one]) (by kernel_rfl) (.inl (fun h=>absurd h (Nat.not_lt.2 dX))) ?_
        clear H;intro nU hN gV hz;clear a;intro a H;replace hS:=hS.setBlk hN gV;clear hN hz;replace hW:=Nat.le_trans hW gV.size
        refine Qx (by kernel_rfl) ?_
        refine Za ?_
        obtain rfl:=Option.some.inj hm;replace hm:=aC;try dsimp only at hm
        replace hS:=hS.pk3
        replace hS:=hS.pk3
        replace hS:=hS.pk3
        replace hS:=hS.pk3
        replace hS:=hS.pk5
        replace hS:=hS.pk6
        replace hS:=hS.tk6
        exact Wh ((List.replicate a0.Events.toNat false),aD,(List.replicate a0.Ports.length (⟨([] : List ByteArray),0⟩ : GPort)),.slice (some ⟨dY,0,none⟩) a0.Events.toNat a0.Events.toNat,bT,.slice (some ⟨aL,0,none⟩) a0.Ports.length a0.Ports.length,jA) H ⟨rfl,rfl,rfl,trivial⟩ ⟨hm,hS⟩
      refine Zae 13 H rfl Zcd rfl ?_
      clear H;intro dZ nV hN gW hs;clear a;intro a H
      have cC : aI.heap.size ≤ dZ:=hs ▸ hW
      replace hS:=hS.newBlk hN gW hs;clear hN hs
      replace hW:=Nat.le_trans hW gW.size
      refine Zg0 4 7 (by kernel_rfl) ?_ ?_
      · skip
        refine Wc (e:=eF) (z0:=false) (L:=a0.Events.toNat) (C:=a0.Events.toNat) 4 H rfl Tryz.underlying30 el4 rfl (by show _=some (Value.int .i64 ((Int.toNat a0.Events : Nat) : Int));rw [Int.toNat_of_nonneg aA];rfl) (by show _=some (Value.int .i64 ((Int.toNat a0.Events : Nat) : Int));rw [Int.toNat_of_nonneg aA];rfl) (Nat.le_refl _) aE (by simp only [maxLen];omega) rfl ?_
        clear H;intro d5 nW hN gX hs;clear a;intro a H;replace hS:=hS.newOwn hN gX (by simp [Wa];omega);clear hN
        replace hW:=Nat.le_trans hW gX.size
        refine Xu 7 (by kernel_rfl) ?_
        refine Xy 7 H rfl rfl Zea (Qe (A:=A) (aB.ext (Zq.mono _) hS.x) aF) rfl (fun v w hv=>.inl (ChgF.of_ext (by obtain⟨_,_,hE0⟩:=hv;exact hE0.x))) ?_
        clear H;intro d7 nX hv;clear a;intro a H;obtain⟨_,rfl,gY⟩:=hv
        replace hS:=hS.new gY;simp only [List.cons_append,List.nil_append] at hS
        replace hW:=Nat.le_trans hW gY.x.size
        refine Zg 12 H rfl (Zz (cs:=[.int .i64 a0.Id,.int .i64 0,.int .i64 0,.slice none 0 0,.slice none 0 0,.slice none 0 0,.slice (some ⟨d5,0,none⟩) a0.Events.toNat a0.Events.toNat,d7,.slice (some ⟨aL,0,none⟩) a0.Ports.length a0.Ports.length,.slice none 0 0]) Zcd Zg4 Zg5 rfl ((Qh rfl rfl (by simp)).trans ((Qh (((hS.own 1 rfl).slr rfl (fun _ _=>rfl))).one rfl (by simp)).trans ((Qh (((hS.own 0 rfl).slr rfl (fun _ _=>rfl))).one rfl (by simp)).trans ((Qh ((hS.deepSl 3 rfl)).one rfl (by simp)).trans rfl))))) rfl (by kernel_rfl) (by kernel_rfl) (by kernel_rfl) (by kernel_rfl) (fun _ _ _ h=>h) ?_;clear H a;intro a H
        replace hS:=hS.pk2
        refine Qj 14 H rfl rfl rfl (vs:=[.int .i64 a0.Id,.int .i64 0,.int .i64 0,.slice none 0 0,.slice none 0 0,.slice none 0 0,.slice (some ⟨d5,0,none⟩) a0.Events.toNat a0.Events.toNat,d7,.slice (some ⟨aL,0,none⟩) a0.Ports.length a0.Ports.length,.slice none 0 0]) rfl Ze9 (hS.blk 0 rfl) rfl (by simp [(((hS.own 2 rfl).slr rfl (fun _ _=>rfl))).one,(((hS.own 1 rfl).slr rfl (fun _ _=>rfl))).one,((hS.deepSl 3 rfl)).one]) (by kernel_rfl) (.inl (fun h=>absurd h (Nat.not_lt.2 cC))) ?_
        clear H;intro nY hN gZ hz;clear a;intro a H;replace hS:=hS.setBlk hN gZ;clear hN hz;replace hW:=Nat.le_trans hW gZ.size
        refine Qx (by kernel_rfl) ?_
        refine Za ?_
        obtain rfl:=Option.some.inj hm;replace hm:=aC;try dsimp only at hm
        replace hS:=hS.pk3
        replace hS:=hS.pk2
        replace hS:=hS.pk3
        replace hS:=hS.pk3
        replace hS:=hS.pk5
        replace hS:=hS.pk6
        replace hS:=hS.tk6
        exact Wh ((List.replicate a0.Events.toNat false),aD,(List.replicate a0.Ports.length (⟨([] : List ByteArray),0⟩ : GPort)),.slice (some ⟨d5,0,none⟩) a0.Events.toNat a0.Events.toNat,d7,.slice (some ⟨aL,0,none⟩) a0.Ports.length a0.Ports.length,dZ) H ⟨rfl,rfl,rfl,trivial⟩ ⟨hm,hS⟩
      refine Xy 7 H rfl rfl Zea (Qe (A:=A) (aB.ext (Zq.mono _) hS.x) aF) rfl (fun v w hv=>.inl (ChgF.of_ext (by obtain⟨_,_,hE0⟩:=hv;exact hE0.x))) ?_
      clear H;intro d8 nZ hv;clear a;intro a H;obtain⟨_,rfl,g6⟩:=hv
      replace hS:=hS.new g6;simp only [List.cons_append,List.nil_append] at hS
      replace hW:=Nat.le_trans hW g6.x.size
      refine Xu 4 (by kernel_rfl) ?_
      refine Wc (e:=eF) (z0:=false) (L:=a0.Events.toNat) (C:=a0.Events.toNat) 4 H rfl Tryz.underlying30 el4 rfl (by show _=some (Value.int .i64 ((Int.toNat a0.Events : Nat) : Int));rw [Int.toNat_of_nonneg aA];rfl) (by show _=some (Value.int .i64 ((Int.toNat a0.Events : Nat) : Int));rw [Int.toNat_of_nonneg aA];rfl) (Nat.le_refl _) aE (by simp only [maxLen];omega) rfl ?_
      clear H;intro d9 n6 hN g7 hs;clear a;intro a H;replace hS:=hS.newOwn hN g7 (by simp [Wa];omega);clear hN
      replace hW:=Nat.le_trans hW g7.size
      refine Zg 12 H rfl (Zz (cs:=[.int .i64 a0.Id,.int .i64 0,.int .i64 0,.slice none 0 0,.slice none 0 0,.slice none 0 0,.slice (some ⟨d9,0,none⟩) a0.Events.toNat a0.Events.toNat,d8,.slice (some ⟨aL,0,none⟩) a0.Ports.length a0.Ports.length,.slice none 0 0]) Zcd Zg4 Zg5 rfl ((Qh rfl rfl (by simp)).trans ((Qh (((hS.own 0 rfl).slr rfl (fun _ _=>rfl))).one rfl (by simp)).trans ((Qh (((hS.own 1 rfl).slr rfl (fun _ _=>rfl))).one rfl (by simp)).trans ((Qh ((hS.deepSl 3 rfl)).one rfl (by simp)).trans rfl))))) rfl (by kernel_rfl) (by kernel_rfl) (by kernel_rfl) (by kernel_rfl) (fun _ _ _ h=>h) ?_;clear H a;intro a H
      replace hS:=hS.pk2
      refine Qj 14 H rfl rfl rfl (vs:=[.int .i64 a0.Id,.int .i64 0,.int .i64 0,.slice none 0 0,.slice none 0 0,.slice none 0 0,.slice (some ⟨d9,0,none⟩) a0.Events.toNat a0.Events.toNat,d8,.slice (some ⟨aL,0,none⟩) a0.Ports.length a0.Ports.length,.slice none 0 0]) rfl Ze9 (hS.blk 0 rfl) rfl (by simp [(((hS.own 1 rfl).slr rfl (fun _ _=>rfl))).one,(((hS.own 2 rfl).slr rfl (fun _ _=>rfl))).one,((hS.deepSl 3 rfl)).one]) (by kernel_rfl) (.inl (fun h=>absurd h (Nat.not_lt.2 cC))) ?_
      clear H;intro n7 hN g8 hz;clear a;intro a H;replace hS:=hS.setBlk hN g8;clear hN hz;replace hW:=Nat.le_trans hW g8.size
      refine Qx (by kernel_rfl) ?_
      refine Za ?_
      obtain rfl:=Option.some.inj hm;replace hm:=aC;try dsimp only at hm
      replace hS:=hS.pk3
      replace hS:=hS.pk3
      replace hS:=hS.pk3
      replace hS:=hS.pk3
      replace hS:=hS.pk5
      replace hS:=hS.pk6
      replace hS:=hS.tk6
      exact Wh ((List.replicate a0.Events.toNat false),aD,(List.replicate a0.Ports.length (⟨([] : List ByteArray),0⟩ : GPort)),.slice (some ⟨d9,0,none⟩) a0.Events.toNat a0.Events.toNat,d8,.slice (some ⟨aL,0,none⟩) a0.Ports.length a0.Ports.length,dZ) H ⟨rfl,rfl,rfl,trivial⟩ ⟨hm,hS⟩
    refine Zae 13 H rfl Zcd rfl ?_
    clear H;intro bG n8 hN g9 hs;clear a;intro a H
    have aO : aI.heap.size ≤ bG:=hs ▸ hW
    replace hS:=hS.newBlk hN g9 hs;clear hN hs
    replace hW:=Nat.le_trans hW g9.size
    refine Zjk 4 7 11 (by kernel_rfl) ?_ ?_ ?_
    · skip
      refine Wc (e:=eF) (z0:=false) (L:=a0.Events.toNat) (C:=a0.Events.toNat) 4 H rfl Tryz.underlying30 el4 rfl (by show _=some (Value.int .i64 ((Int.toNat a0.Events : Nat) : Int));rw [Int.toNat_of_nonneg aA];rfl) (by show _=some (Value.int .i64 ((Int.toNat a0.Events : Nat) : Int));rw [Int.toNat_of_nonneg aA];rfl) (Nat.le_refl _) aE (by simp only [maxLen];omega) rfl ?_
      clear H;intro bU n9 hN hJ hs;clear a;intro a H;replace hS:=hS.newOwn hN hJ (by simp [Wa];omega);clear hN
      replace hW:=Nat.le_trans hW hJ.size
      refine Zg0 7 11 (by kernel_rfl) ?_ ?_
      · skip
        refine Xy 7 H rfl rfl Zea (Qe (A:=A) (aB.ext (Zq.mono _) hS.x) aF) rfl (fun v w hv=>.inl (ChgF.of_ext (by obtain⟨_,_,hE0⟩:=hv;exact hE0.x))) ?_
        clear H;intro eA oA hv;clear a;intro a H;obtain⟨_,rfl,hM⟩:=hv
        replace hS:=hS.new hM;simp only [List.cons_append,List.nil_append] at hS
        replace hW:=Nat.le_trans hW hM.x.size
        refine Xu 11 (by kernel_rfl) ?_
        refine Gl (L:=a0.Ports.length) (C:=a0.Ports.length) 11 H rfl Tryz.underlying31 Zd9 rfl rfl (Nat.le_refl _) aG (by simp only [maxLen];omega) rfl ?_
        clear H;intro eC oB hN hU hs;clear a;intro a H;replace hS:=hS.newOwn hN hU (by simp [Wa];omega);clear hN
        replace hS:=St.mkDeep0 (R:=Wu) (z0:=(⟨([] : List ByteArray),0⟩ : GPort)) (n:=a0.Ports.length) rfl (by simp) (fun w=>⟨_,rfl,SlR.nil _ _ _⟩) hS
        replace hW:=Nat.le_trans hW hU.size
        refine Zg 12 H rfl (Zz (cs:=[.int .i64 a0.Id,.int .i64 0,.int .i64 0,.slice none 0 0,.slice none 0 0,.slice none 0 0,.slice (some ⟨bU,0,none⟩) a0.Events.toNat a0.Events.toNat,eA,.slice (some ⟨eC,0,none⟩) a0.Ports.length a0.Ports.length,.slice none 0 0]) Zcd Zg4 Zg5 rfl ((Qh rfl rfl (by simp)).trans ((Qh (((hS.own 2 rfl).slr rfl (fun _ _=>rfl))).one rfl (by simp)).trans ((Qh (((hS.own 1 rfl).slr rfl (fun _ _=>rfl))).one rfl (by simp)).trans ((Qh ((hS.deepSl 0 rfl)).one rfl (by simp)).trans rfl))))) rfl (by kernel_rfl) (by kernel_rfl) (by kernel_rfl) (by kernel_rfl) (fun _ _ _ h=>h) ?_;clear H a;intro a H
        replace hS:=hS.pk3
        refine Qj 14 H rfl rfl rfl (vs:=[.int .i64 a0.Id,.int .i64 0,.int .i64 0,.slice none 0 0,.slice none 0 0,.slice none 0 0,.slice (some ⟨bU,0,none⟩) a0.Events.toNat a0.Events.toNat,eA,.slice (some ⟨eC,0,none⟩) a0.Ports.length a0.Ports.length,.slice none 0 0]) rfl Ze9 (hS.blk 0 rfl) rfl (by simp [(((hS.own 3 rfl).slr rfl (fun _ _=>rfl))).one,(((hS.own 2 rfl).slr rfl (fun _ _=>rfl))).one,((hS.deepSl 1 rfl)).one]) (by kernel_rfl) (.inl (fun h=>absurd h (Nat.not_lt.2 aO))) ?_
        clear H;intro oC hN hY hz;clear a;intro a H;replace hS:=hS.setBlk hN hY;clear hN hz;replace hW:=Nat.le_trans hW hY.size
        refine Qx (by kernel_rfl) ?_
        refine Za ?_
        obtain rfl:=Option.some.inj hm;replace hm:=aC;try dsimp only at hm
        replace hS:=hS.pk1
        replace hS:=hS.pk2
        replace hS:=hS.pk3
        replace hS:=hS.pk3
        replace hS:=hS.pk5
        replace hS:=hS.pk6
        replace hS:=hS.tk6
        exact Wh ((List.replicate a0.Events.toNat false),aD,(List.replicate a0.Ports.length (⟨([] : List ByteArray),0⟩ : GPort)),.slice (some ⟨bU,0,none⟩) a0.Events.toNat a0.Events.toNat,eA,.slice (some ⟨eC,0,none⟩) a0.Ports.length a0.Ports.length,bG) H ⟨rfl,rfl,rfl,trivial⟩ ⟨hm,hS⟩
      refine Gl (L:=a0.Ports.length) (C:=a0.Ports.length) 11 H rfl Tryz.underlying31 Zd9 rfl rfl (Nat.le_refl _) aG (by simp only [maxLen];omega) rfl ?_
      clear H;intro eD oD hN hZ hs;clear a;intro a H;replace hS:=hS.newOwn hN hZ (by simp [Wa];omega);clear hN
      replace hS:=St.mkDeep0 (R:=Wu) (z0:=(⟨([] : List ByteArray),0⟩ : GPort)) (n:=a0.Ports.length) rfl (by simp) (fun w=>⟨_,rfl,SlR.nil _ _ _⟩) hS
      replace hW:=Nat.le_trans hW hZ.size
      refine Xu 7 (by kernel_rfl) ?_
      refine Xy 7 H rfl rfl Zea (Qe (A:=A) (aB.ext (Zq.mono _) hS.x) aF) rfl (fun v w hv=>.inl (ChgF.of_ext (by obtain⟨_,_,hE0⟩:=hv;exact hE0.x))) ?_
      clear H;intro eE oE hv;clear a;intro a H;obtain⟨_,rfl,iA⟩:=hv
      replace hS:=hS.new iA;simp only [List.cons_append,List.nil_append] at hS
      replace hW:=Nat.le_trans hW iA.x.size
      refine Zg 12 H rfl (Zz (cs:=[.int .i64 a0.Id,.int .i64 0,.int .i64 0,.slice none 0 0,.slice none 0 0,.slice none 0 0,.slice (some ⟨bU,0,none⟩) a0.Events.toNat a0.Events.toNat,eE,.slice (some ⟨eD,0,none⟩) a0.Ports.length a0.Ports.length,.slice none 0 0]) Zcd Zg4 Zg5 rfl ((Qh rfl rfl (by simp)).trans ((Qh (((hS.own 2 rfl).slr rfl (fun _ _=>rfl))).one rfl (by simp)).trans ((Qh (((hS.own 0 rfl).slr rfl (fun _ _=>rfl))).one rfl (by simp)).trans ((Qh ((hS.deepSl 1 rfl)).one rfl (by simp)).trans rfl))))) rfl (by kernel_rfl) (by kernel_rfl) (by kernel_rfl) (by kernel_rfl) (fun _ _ _ h=>h) ?_;clear H a;intro a H
      replace hS:=hS.pk3
      refine Qj 14 H rfl rfl rfl (vs:=[.int .i64 a0.Id,.int .i64 0,.int .i64 0,.slice none 0 0,.slice none 0 0,.slice none 0 0,.slice (some ⟨bU,0,none⟩) a0.Events.toNat a0.Events.toNat,eE,.slice (some ⟨eD,0,none⟩) a0.Ports.length a0.Ports.length,.slice none 0 0]) rfl Ze9 (hS.blk 0 rfl) rfl (by simp [(((hS.own 3 rfl).slr rfl (fun _ _=>rfl))).one,(((hS.own 1 rfl).slr rfl (fun _ _=>rfl))).one,((hS.deepSl 2 rfl)).one]) (by kernel_rfl) (.inl (fun h=>absurd h (Nat.not_lt.2 aO))) ?_
      clear H;intro oF hN iB hz;clear a;intro a H;replace hS:=hS.setBlk hN iB;clear hN hz;replace hW:=Nat.le_trans hW iB.size
      refine Qx (by kernel_rfl) ?_
      refine Za ?_
      obtain rfl:=Option.some.inj hm;replace hm:=aC;try dsimp only at hm
      replace hS:=hS.pk2
      replace hS:=hS.pk2
      replace hS:=hS.pk3
      replace hS:=hS.pk3
      replace hS:=hS.pk5
      replace hS:=hS.pk6
      replace hS:=hS.tk6
      exact Wh ((List.replicate a0.Events.toNat false),aD,(List.replicate a0.Ports.length (⟨([] : List ByteArray),0⟩ : GPort)),.slice (some ⟨bU,0,none⟩) a0.Events.toNat a0.Events.toNat,eE,.slice (some ⟨eD,0,none⟩) a0.Ports.length a0.Ports.length,bG) H ⟨rfl,rfl,rfl,trivial⟩ ⟨hm,hS⟩
    · skip
      refine Xy 7 H rfl rfl Zea (Qe (A:=A) (aB.ext (Zq.mono _) hS.x) aF) rfl (fun v w hv=>.inl (ChgF.of_ext (by obtain⟨_,_,hE0⟩:=hv;exact hE0.x))) ?_
      clear H;intro bV oG hv;clear a;intro a H;obtain⟨_,rfl,iC⟩:=hv
      replace hS:=hS.new iC;simp only [List.cons_append,List.nil_append] at hS
      replace hW:=Nat.le_trans hW iC.x.size
      refine Zg0 4 11 (by kernel_rfl) ?_ ?_
      · skip
        refine Wc (e:=eF) (z0:=false) (L:=a0.Events.toNat) (C:=a0.Events.toNat) 4 H rfl Tryz.underlying30 el4 rfl (by show _=some (Value.int .i64 ((Int.toNat a0.Events : Nat) : Int));rw [Int.toNat_of_nonneg aA];rfl) (by show _=some (Value.int .i64 ((Int.toNat a0.Events : Nat) : Int));rw [Int.toNat_of_nonneg aA];rfl) (Nat.le_refl _) aE (by simp only [maxLen];omega) rfl ?_
        clear H;intro eG oH hN iD hs;clear a;intro a H;replace hS:=hS.newOwn hN iD (by simp [Wa];omega);clear hN
        replace hW:=Nat.le_trans hW iD.size
        refine Xu 11 (by kernel_rfl) ?_
        refine Gl (L:=a0.Ports.length) (C:=a0.Ports.length) 11 H rfl Tryz.underlying31 Zd9 rfl rfl (Nat.le_refl _) aG (by simp only [maxLen];omega) rfl ?_
        clear H;intro eH oI hN iE hs;clear a;intro a H;replace hS:=hS.newOwn hN iE (by simp [Wa];omega);clear hN
        replace hS:=St.mkDeep0 (R:=Wu) (z0:=(⟨([] : List ByteArray),0⟩ : GPort)) (n:=a0.Ports.length) rfl (by simp) (fun w=>⟨_,rfl,SlR.nil _ _ _⟩) hS
        replace hW:=Nat.le_trans hW iE.size
        refine Zg 12 H rfl (Zz (cs:=[.int .i64 a0.Id,.int .i64 0,.int .i64 0,.slice none 0 0,.slice none 0 0,.slice none 0 0,.slice (some ⟨eG,0,none⟩) a0.Events.toNat a0.Events.toNat,bV,.slice (some ⟨eH,0,none⟩) a0.Ports.length a0.Ports.length,.slice none 0 0]) Zcd Zg4 Zg5 rfl ((Qh rfl rfl (by simp)).trans ((Qh (((hS.own 1 rfl).slr rfl (fun _ _=>rfl))).one rfl (by simp)).trans ((Qh (((hS.own 2 rfl).slr rfl (fun _ _=>rfl))).one rfl (by simp)).trans ((Qh ((hS.deepSl 0 rfl)).one rfl (by simp)).trans rfl))))) rfl (by kernel_rfl) (by kernel_rfl) (by kernel_rfl) (by kernel_rfl) (fun _ _ _ h=>h) ?_;clear H a;intro a H
        replace hS:=hS.pk3
        refine Qj 14 H rfl rfl rfl (vs:=[.int .i64 a0.Id,.int .i64 0,.int .i64 0,.slice none 0 0,.slice none 0 0,.slice none 0 0,.slice (some ⟨eG,0,none⟩) a0.Events.toNat a0.Events.toNat,bV,.slice (some ⟨eH,0,none⟩) a0.Ports.length a0.Ports.length,.slice none 0 0]) rfl Ze9 (hS.blk 0 rfl) rfl (by simp [(((hS.own 2 rfl).slr rfl (fun _ _=>rfl))).one,(((hS.own 3 rfl).slr rfl (fun _ _=>rfl))).one,((hS.deepSl 1 rfl)).one]) (by kernel_rfl) (.inl (fun h=>absurd h (Nat.not_lt.2 aO))) ?_
        clear H;intro oJ hN iF hz;clear a;intro a H;replace hS:=hS.setBlk hN iF;clear hN hz;replace hW:=Nat.le_trans hW iF.size
        refine Qx (by kernel_rfl) ?_
        refine Za ?_
        obtain rfl:=Option.some.inj hm;replace hm:=aC;try dsimp only at hm
        replace hS:=hS.pk1
        replace hS:=hS.pk3
        replace hS:=hS.pk3
        replace hS:=hS.pk3
        replace hS:=hS.pk5
        replace hS:=hS.pk6
        replace hS:=hS.tk6
        exact Wh ((List.replicate a0.Events.toNat false),aD,(List.replicate a0.Ports.length (⟨([] : List ByteArray),0⟩ : GPort)),.slice (some ⟨eG,0,none⟩) a0.Events.toNat a0.Events.toNat,bV,.slice (some ⟨eH,0,none⟩) a0.Ports.length a0.Ports.length,bG) H ⟨rfl,rfl,rfl,trivial⟩ ⟨hm,hS⟩
      refine Gl (L:=a0.Ports.length) (C:=a0.Ports.length) 11 H rfl Tryz.underlying31 Zd9 rfl rfl (Nat.le_refl _) aG (by simp only [maxLen];omega) rfl ?_
      clear H;intro eJ oK hN iG hs;clear a;intro a H;replace hS:=hS.newOwn hN iG (by simp [Wa];omega);clear hN
      replace hS:=St.mkDeep0 (R:=Wu) (z0:=(⟨([] : List ByteArray),0⟩ : GPort)) (n:=a0.Ports.length) rfl (by simp) (fun w=>⟨_,rfl,SlR.nil _ _ _⟩) hS
      replace hW:=Nat.le_trans hW iG.size
      refine Xu 4 (by kernel_rfl) ?_
      refine Wc (e:=eF) (z0:=false) (L:=a0.Events.toNat) (C:=a0.Events.toNat) 4 H rfl Tryz.underlying30 el4 rfl (by show _=some (Value.int .i64 ((Int.toNat a0.Events : Nat) : Int));rw [Int.toNat_of_nonneg aA];rfl) (by show _=some (Value.int .i64 ((Int.toNat a0.Events : Nat) : Int));rw [Int.toNat_of_nonneg aA];rfl) (Nat.le_refl _) aE (by simp only [maxLen];omega) rfl ?_
      clear H;intro eK oL hN iH hs;clear a;intro a H;replace hS:=hS.newOwn hN iH (by simp [Wa];omega);clear hN
      replace hW:=Nat.le_trans hW iH.size
      refine Zg 12 H rfl (Zz (cs:=[.int .i64 a0.Id,.int .i64 0,.int .i64 0,.slice none 0 0,.slice none 0 0,.slice none 0 0,.slice (some ⟨eK,0,none⟩) a0.Events.toNat a0.Events.toNat,bV,.slice (some ⟨eJ,0,none⟩) a0.Ports.length a0.Ports.length,.slice none 0 0]) Zcd Zg4 Zg5 rfl ((Qh rfl rfl (by simp)).trans ((Qh (((hS.own 0 rfl).slr rfl (fun _ _=>rfl))).one rfl (by simp)).trans ((Qh (((hS.own 2 rfl).slr rfl (fun _ _=>rfl))).one rfl (by simp)).trans ((Qh ((hS.deepSl 1 rfl)).one rfl (by simp)).trans rfl))))) rfl (by kernel_rfl) (by kernel_rfl) (by kernel_rfl) (by kernel_rfl) (fun _ _ _ h=>h) ?_;clear H a;intro a H
      replace hS:=hS.pk3
      refine Qj 14 H rfl rfl rfl (vs:=[.int .i64 a0.Id,.int .i64 0,.int .i64 0,.slice none 0 0,.slice none 0 0,.slice none 0 0,.slice (some ⟨eK,0,none⟩) a0.Events.toNat a0.Events.toNat,bV,.slice (some ⟨eJ,0,none⟩) a0.Ports.length a0.Ports.length,.slice none 0 0]) rfl Ze9 (hS.blk 0 rfl) rfl (by simp [(((hS.own 1 rfl).slr rfl (fun _ _=>rfl))).one,(((hS.own 3 rfl).slr rfl (fun _ _=>rfl))).one,((hS.deepSl 2 rfl)).one]) (by kernel_rfl) (.inl (fun h=>absurd h (Nat.not_lt.2 aO))) ?_
      clear H;intro oM hN iI hz;clear a;intro a H;replace hS:=hS.setBlk hN iI;clear hN hz;replace hW:=Nat.le_trans hW iI.size
      refine Qx (by kernel_rfl) ?_
      refine Za ?_
      obtain rfl:=Option.some.inj hm;replace hm:=aC;try dsimp only at hm
      replace hS:=hS.pk2
      replace hS:=hS.pk3
      replace hS:=hS.pk3
      replace hS:=hS.pk3
      replace hS:=hS.pk5
      replace hS:=hS.pk6
      replace hS:=hS.tk6
      exact Wh ((List.replicate a0.Events.toNat false),aD,(List.replicate a0.Ports.length (⟨([] : List ByteArray),0⟩ : GPort)),.slice (some ⟨eK,0,none⟩) a0.Events.toNat a0.Events.toNat,bV,.slice (some ⟨eJ,0,none⟩) a0.Ports.length a0.Ports.length,bG) H ⟨rfl,rfl,rfl,trivial⟩ ⟨hm,hS⟩
    refine Gl (L:=a0.Ports.length) (C:=a0.Ports.length) 11 H rfl Tryz.underlying31 Zd9 rfl rfl (Nat.le_refl _) aG (by simp only [maxLen];omega) rfl ?_
    clear H;intro bW oN hN iJ hs;clear a;intro a H;replace hS:=hS.newOwn hN iJ (by simp [Wa];omega);clear hN
    replace hS:=St.mkDeep0 (R:=Wu) (z0:=(⟨([] : List ByteArray),0⟩ : GPort)) (n:=a0.Ports.length) rfl (by simp) (fun w=>⟨_,rfl,SlR.nil _ _ _⟩) hS
    replace hW:=Nat.le_trans hW iJ.size
    refine Zg0 4 7 (by kernel_rfl) ?_ ?_
    · skip
      refine Wc (e:=eF) (z0:=false) (L:=a0.Events.toNat) (C:=a0.Events.toNat) 4 H rfl Tryz.underlying30 el4 rfl (by show _=some (Value.int .i64 ((Int.toNat a0.Events : Nat) : Int));rw [Int.toNat_of_nonneg aA];rfl) (by show _=some (Value.int .i64 ((Int.toNat a0.Events : Nat) : Int));rw [Int.toNat_of_nonneg aA];rfl) (Nat.le_refl _) aE (by simp only [maxLen];omega) rfl ?_
      clear H;intro eL oO hN iK hs;clear a;intro a H;replace hS:=hS.newOwn hN iK (by simp [Wa];omega);clear hN
      replace hW:=Nat.le_trans hW iK.size
      refine Xu 7 (by kernel_rfl) ?_
      refine Xy 7 H rfl rfl Zea (Qe (A:=A) (aB.ext (Zq.mono _) hS.x) aF) rfl (fun v w hv=>.inl (ChgF.of_ext (by obtain⟨_,_,hE0⟩:=hv;exact hE0.x))) ?_
      clear H;intro eM oP hv;clear a;intro a H;obtain⟨_,rfl,iL⟩:=hv
      replace hS:=hS.new iL;simp only [List.cons_append,List.nil_append] at hS
      replace hW:=Nat.le_trans hW iL.x.size
      refine Zg 12 H rfl (Zz (cs:=[.int .i64 a0.Id,.int .i64 0,.int .i64 0,.slice none 0 0,.slice none 0 0,.slice none 0 0,.slice (some ⟨eL,0,none⟩) a0.Events.toNat a0.Events.toNat,eM,.slice (some ⟨bW,0,none⟩) a0.Ports.length a0.Ports.length,.slice none 0 0]) Zcd Zg4 Zg5 rfl ((Qh rfl rfl (by simp)).trans ((Qh (((hS.own 1 rfl).slr rfl (fun _ _=>rfl))).one rfl (by simp)).trans ((Qh (((hS.own 0 rfl).slr rfl (fun _ _=>rfl))).one rfl (by simp)).trans ((Qh ((hS.deepSl 2 rfl)).one rfl (by simp)).trans rfl))))) rfl (by kernel_rfl) (by kernel_rfl) (by kernel_rfl) (by kernel_rfl) (fun _ _ _ h=>h) ?_;clear H a;intro a H
      replace hS:=hS.pk3
      refine Qj 14 H rfl rfl rfl (vs:=[.int .i64 a0.Id,.int .i64 0,.int .i64 0,.slice none 0 0,.slice none 0 0,.slice none 0 0,.slice (some ⟨eL,0,none⟩) a0.Events.toNat a0.Events.toNat,eM,.slice (some ⟨bW,0,none⟩) a0.Ports.length a0.Ports.length,.slice none 0 0]) rfl Ze9 (hS.blk 0 rfl) rfl (by simp [(((hS.own 2 rfl).slr rfl (fun _ _=>rfl))).one,(((hS.own 1 rfl).slr rfl (fun _ _=>rfl))).one,((hS.deepSl 3 rfl)).one]) (by kernel_rfl) (.inl (fun h=>absurd h (Nat.not_lt.2 aO))) ?_
      clear H;intro oQ hN iM hz;clear a;intro a H;replace hS:=hS.setBlk hN iM;clear hN hz;replace hW:=Nat.le_trans hW iM.size
      refine Qx (by kernel_rfl) ?_
      refine Za ?_
      obtain rfl:=Option.some.inj hm;replace hm:=aC;try dsimp only at hm
      replace hS:=hS.pk3
      replace hS:=hS.pk2
      replace hS:=hS.pk3
      replace hS:=hS.pk3
      replace hS:=hS.pk5
      replace hS:=hS.pk6
      replace hS:=hS.tk6
      exact Wh ((List.replicate a0.Events.toNat false),aD,(List.replicate a0.Ports.length (⟨([] : List ByteArray),0⟩ : GPort)),.slice (some ⟨eL,0,none⟩) a0.Events.toNat a0.Events.toNat,eM,.slice (some ⟨bW,0,none⟩) a0.Ports.length a0.Ports.length,bG) H ⟨rfl,rfl,rfl,trivial⟩ ⟨hm,hS⟩
    refine Xy 7 H rfl rfl Zea (Qe (A:=A) (aB.ext (Zq.mono _) hS.x) aF) rfl (fun v w hv=>.inl (ChgF.of_ext (by obtain⟨_,_,hE0⟩:=hv;exact hE0.x))) ?_
    clear H;intro eN oR hv;clear a;intro a H;obtain⟨_,rfl,iN⟩:=hv
    replace hS:=hS.new iN;simp only [List.cons_append,List.nil_append] at hS
    replace hW:=Nat.le_trans hW iN.x.size
    refine Xu 4 (by kernel_rfl) ?_
    refine Wc (e:=eF) (z0:=false) (L:=a0.Events.toNat) (C:=a0.Events.toNat) 4 H rfl Tryz.underlying30 el4 rfl (by show _=some (Value.int .i64 ((Int.toNat a0.Events : Nat) : Int));rw [Int.toNat_of_nonneg aA];rfl) (by show _=some (Value.int .i64 ((Int.toNat a0.Events : Nat) : Int));rw [Int.toNat_of_nonneg aA];rfl) (Nat.le_refl _) aE (by simp only [maxLen];omega) rfl ?_
    clear H;intro eO oS hN iO hs;clear a;intro a H;replace hS:=hS.newOwn hN iO (by simp [Wa];omega);clear hN
    replace hW:=Nat.le_trans hW iO.size
    refine Zg 12 H rfl (Zz (cs:=[.int .i64 a0.Id,.int .i64 0,.int .i64 0,.slice none 0 0,.slice none 0 0,.slice none 0 0,.slice (some ⟨eO,0,none⟩) a0.Events.toNat a0.Events.toNat,eN,.slice (some ⟨bW,0,none⟩) a0.Ports.length a0.Ports.length,.slice none 0 0]) Zcd Zg4 Zg5 rfl ((Qh rfl rfl (by simp)).trans ((Qh (((hS.own 0 rfl).slr rfl (fun _ _=>rfl))).one rfl (by simp)).trans ((Qh (((hS.own 1 rfl).slr rfl (fun _ _=>rfl))).one rfl (by simp)).trans ((Qh ((hS.deepSl 2 rfl)).one rfl (by simp)).trans rfl))))) rfl (by kernel_rfl) (by kernel_rfl) (by kernel_rfl) (by kernel_rfl) (fun _ _ _ h=>h) ?_;clear H a;intro a H
    replace hS:=hS.pk3
    refine Qj 14 H rfl rfl rfl (vs:=[.int .i64 a0.Id,.int .i64 0,.int .i64 0,.slice none 0 0,.slice none 0 0,.slice none 0 0,.slice (some ⟨eO,0,none⟩) a0.Events.toNat a0.Events.toNat,eN,.slice (some ⟨bW,0,none⟩) a0.Ports.length a0.Ports.length,.slice none 0 0]) rfl Ze9 (hS.blk 0 rfl) rfl (by simp [(((hS.own 1 rfl).slr rfl (fun _ _=>rfl))).one,(((hS.own 2 rfl).slr rfl (fun _ _=>rfl))).one,((hS.deepSl 3 rfl)).one]) (by kernel_rfl) (.inl (fun h=>absurd h (Nat.not_lt.2 aO))) ?_
    clear H;intro oT hN iP hz;clear a;intro a H;replace hS:=hS.setBlk hN iP;clear hN hz;replace hW:=Nat.le_trans hW iP.size
    refine Qx (by kernel_rfl) ?_
    refine Za ?_
    obtain rfl:=Option.some.inj hm;replace hm:=aC;try dsimp only at hm
    replace hS:=hS.pk3
    replace hS:=hS.pk3
    replace hS:=hS.pk3
    replace hS:=hS.pk3
    replace hS:=hS.pk5
    replace hS:=hS.pk6
    replace hS:=hS.tk6
    exact Wh ((List.replicate a0.Events.toNat false),aD,(List.replicate a0.Ports.length (⟨([] : List ByteArray),0⟩ : GPort)),.slice (some ⟨eO,0,none⟩) a0.Events.toNat a0.Events.toNat,eN,.slice (some ⟨bW,0,none⟩) a0.Ports.length a0.Ports.length,bG) H ⟨rfl,rfl,rfl,trivial⟩ ⟨hm,hS⟩
  clear H hS hm a;intro xx a oU H hR
  obtain⟨aV,aW,bF,aR,aS,aT,aY⟩:=xx
  simp only [ent,List.map_cons,List.map_nil] at H;(try dsimp only at hR);obtain⟨hm,hS⟩:=hR;try dsimp only [Zah] at hm
  refine wp_seq (wp_seq (wp_region_lit (n_q H (Zd rfl Ur) rfl (W_q (Zf rfl ((hS.blk 0 rfl).ld Zii rfl)) rfl ?_))));clear H a;intro a H
  obtain⟨oV,oW,bZ,kX,kY⟩:=SlR.formV (bK.ext (Zq.mono _) hS.x)
  refine n_q H (Qf Tryz.underlying23 rfl bZ) rfl (W_q (Zc rfl) rfl ?_);clear H a;intro a H
  refine Ze (Za (wp_block ?_))
  replace hS:=hS.nilOwn 144 21
  replace hS:=hS.nilOwn 3 1
  replace hS:=hS.pk7
  replace hS:=hS.pk7
  replace hS:=hS.pk7
  replace hS:=hS.pk3
  replace hS:=hS.pk4
  replace hS:=hS.pk7
  replace hS:=hS.pk7
  replace hS:=hS.pk7
  replace hm:=Zi hm;obtain⟨jB,hm,j0⟩:=hm;replace hm:=Qg hm;obtain⟨kL,hm⟩:=hm
  refine Jd (σ:=Nat × Nat × (List GProc) × (List Int) × Value × Value) (fun (m,aN,aU,aZ,aX,a9)=>[(1,.pointer (some ⟨b8,0,none⟩)),(2,.pointer (some ⟨bX,0,none⟩)),(4,.pointer (some ⟨aY,0,none⟩)),(30,bA),(31,.int .i64 ((a0.Procs.length : Nat) : Int)),(32,.int .i64 ((aN : Nat) : Int))]) (fun (m,aN,aU,aZ,aX,a9) wl=>Js (Uv a0) m (aN,aU,aZ)=some jB ∧ St NB w wl [blkR b8 [.int .i64 a0.Id,.bool a0.Mobile,bD,bA,bH,.int .i64 a0.Events,bI] 27,blkR bX [.int .i64 0,.int .i64 0,.int .i64 0,.slice none 0 0,.slice none 0 0,.slice none 0 0,.slice none 0 0,.slice none 0 0,.slice none 0 0,.slice none 0 0] 34,blkR aY [.int .i64 a0.Id,.int .i64 0,.int .i64 0,aX,a9,.slice none 0 0,aR,aS,aT,.slice none 0 0] 34,ownR 144 21 aX aU.length (aU.flatMap Zbh),ownR 3 1 a9 aZ.length (aZ.flatMap eI),ownR 4 1 aR aV.length (aV.flatMap eF),ownR 3 1 aS aW.length (aW.flatMap eI),deepR 154 2 Wu aT bF]) (fun (m,aN,aU,aZ,aX,a9)=>m) (kL,0,([] : List GProc),([] : List Int),.slice none 0 0,.slice none 0 0) H ⟨rfl,rfl,rfl,rfl,rfl,rfl,trivial⟩ ⟨hm,hS⟩ ?_
  clear H hS hm a;intro xx a oX H hR;obtain⟨m,aN,aU,aZ,aX,a9⟩:=xx;simp only [ent,List.map_cons,List.map_nil] at H;(try dsimp only at hR);obtain⟨hm,hS⟩:=hR
  replace hm:=Qa hm;obtain⟨kM,kN,rfl,hm,iQ⟩:=hm;try dsimp only [Uv] at hm
  refine wp_seq (wp_region_lit (n_q H (Xz (i:=aN) (j:=a0.Procs.length) rfl rfl) rfl ?_));clear H a;intro a H
  refine Ze (Za (wp_seq (Zl H rfl (fun b7=>?_) (fun b7=>?_))))
  · replace hm:=Zu hm b7
    have kR : aN < a0.Procs.length:=of_decide_eq_true b7
    refine wp_skip (Za (wp_seq (wp_block (wp_seq (wp_region_lit (n_q H (Zc rfl) rfl ?_))))));clear H a;intro a H
    replace hm:=Zi hm;obtain⟨aP,cJ,hm⟩:=hm
    obtain⟨kS,cL⟩:=SlR.adV (bK.ext (Zq.mono _) hS.x) bZ cJ
    refine n_q H (Jn (i:=aN) Tryz.underlying23 Tl rfl bZ cL rfl (Ho cJ)) rfl (W_q (Zf rfl (SlR.ldAggV (bK.ext (Zq.mono _) hS.x) bZ cL Zjs Tl cJ)) rfl ?_);clear H a;intro a H
    refine Qr H Zex rfl ?_
    clear H;intro oY oZ hN j1 hs;clear a;intro a H
    replace hS:=hS.newBlk hN j1 hs;clear hN hs
    refine n_q H (Zb rfl) rfl ?_;clear H a;intro a H
    refine Zr H rfl rfl (vs:=[.int .i64 aP.Entry,.int .i64 aP.Prio,.bool aP.Auto]) rfl Tl (hS.blk 0 rfl) rfl (by simp) ?_
    clear H;intro o1 hN j2 hz;clear a;intro a H;replace hS:=hS.setBlk hN j2;clear hN hz
    refine Ze (Za (wp_seq (wp_region_lit (n_q H (Zd rfl Zcc) rfl (W_q (Zf rfl ((hS.blk 0 rfl).ld ag3 rfl)) rfl (W_q (Xn Tryz.underlying3 Tryz.underlying101 ⟨_,rfl⟩ rfl) rfl (W_q (Zd rfl Zev) rfl (W_q (Zf rfl ((hS.blk 0 rfl).ld ag3 rfl)) rfl (W_q (Zz (cs:=((Vector.replicate 16 0).toList.map (Value.int .u32) ++ [.int .u32 (IntKind.u32.wrap aP.Entry),.int .i64 0,.int .i64 aP.Prio,.int .i64 0,.int .i64 0])) Zuc bd144 pl144 rfl (by kernel_rfl)) rfl ?_)))))))));clear H a;intro a H
    refine Qr H Zuc rfl ?_
    clear H;intro jC o2 hN j3 hs;clear a;intro a H
    replace hS:=hS.newBlk hN j3 hs;clear hN hs
    refine Zr H rfl rfl (vs:=((Vector.replicate 16 0).toList.map (Value.int .u32) ++ [.int .u32 (IntKind.u32.wrap aP.Entry),.int .i64 0,.int .i64 aP.Prio,.int .i64 0,.int .i64 0])) rfl (Zub.trans (by simp)) (hS.blk 0 rfl) (by simp) (Zi5 (⟨(Vector.replicate 16 0),(IntKind.u32.wrap aP.Entry),0,aP.Prio,0,0⟩ : GProc)) ?_
    clear H;intro o3 hN j4 hz;clear a;intro a H;replace hS:=hS.setBlk hN j4;clear hN hz
    refine Ze (Za ?_)
    replace hm:=Zi hm;obtain⟨o4,hm,iR⟩:=hm
    refine Hj (σ:=(List Int) × GProc × Value) H (fun (bE,aM,bL)=>[(1,.pointer (some ⟨b8,0,none⟩)),(2,.pointer (some ⟨bX,0,none⟩)),(4,.pointer (some ⟨aY,0,none⟩)),(7,.pointer (some ⟨jC,0,none⟩)),(30,bA),(31,.int .i64 ((a0.Procs.length : Nat) : Int)),(32,.int .i64 ((aN : Nat) : Int))]) (fun (bE,aM,bL) wl=>(Zag aN aU) (bE,aM)=some kN ∧ St NB w wl [blkR b8 [.int .i64 a0.Id,.bool a0.Mobile,bD,bA,bH,.int .i64 a0.Events,bI] 27,blkR bX [.int .i64 0,.int .i64 0,.int .i64 0,.slice none 0 0,.slice none 0 0,.slice none 0 0,.slice none 0 0,.slice none 0 0,.slice none 0 0,.slice none 0 0] 34,blkR aY [.int .i64 a0.Id,.int .i64 0,.int .i64 0,aX,bL,.slice none 0 0,aR,aS,aT,.slice none 0 0] 34,ownR 144 21 aX aU.length (aU.flatMap Zbh),ownR 3 1 bL bE.length (bE.flatMap eI),ownR 4 1 aR aV.length (aV.flatMap eF),ownR 3 1 aS aW.length (aW.flatMap eI),deepR 154 2 Wu aT bF,blkR jC (aM.Regs.toList.map (Value.int .u32) ++ [.int .u32 aM.Pc,.int .i64 aM.State,.int .i64 aM.Prio,.int .i64 aM.Wait,.int .i64 aM.Obj]) 144]) ?_ ?_
    · skip
      refine wp_seq (wp_region_lit (n_q H (Zd rfl Zmi) rfl (W_q (Zf rfl ((hS.blk 1 rfl).ld ag4 rfl)) rfl ?_)));clear H a;intro a H
      refine Ze (Za (Zl H rfl (fun cD=>?_) (fun cD=>?_)))
      · replace hm:=Zu hm cD
        refine wp_seq (wp_region_lit (n_q H (Zd rfl Zua) rfl ?_));clear H a;intro a H
        refine Jz H rfl rfl sz3 (hS.blk 0 rfl) (by simp) rfl ?_
        clear H;intro kZ hN jD hz;clear a;intro a H;replace hS:=hS.setBlk hN jD;clear hN hz
        try simp only [List.set_cons_succ,List.set_cons_zero] at hS
        refine Ze (Za (wp_region_lit (n_q H (Zd rfl Zp4) rfl (W_q (Zf rfl ((hS.blk 4 rfl).ld Zij rfl)) rfl (W_q (Zc rfl) rfl ?_)))));clear H a;intro a H
        refine Qd H Tryz.underlying25 sz3 ze3 rfl rfl rfl (cs:=[.int .i64 ((aN : Nat) : Int)]) (by kernel_rfl) rfl ?_
        clear H;intro k7 k8 hN jE hs;clear a;intro a H
        replace hS:=hS.newBlk hN jE hs;clear hN hs
        replace hS:=hS.blkOwnL (e:=eI) (k:=1) [((aN : Nat) : Int)] rfl rfl (by simp [maxLen])
        replace hS:=hS.pk7
        replace hm:=Tj hm;obtain⟨jF,hm⟩:=hm
        refine Zb1 (e:=eI) H rfl rfl Tryz.underlying25 Tryz.underlying25 (by simp) el3 (hS.own 0 rfl) (((hS.own 1 rfl).slr rfl (fun _ _=>rfl)).src (fun _ _=>rfl)) Zkt jF (by simp only [maxLen];omega) rfl ?_
        clear H;intro j5 k9 hN jG hb;clear a;intro a H;replace hS:=hS.setOwn hN jG hb;clear hN hb
        refine n_q H (Zd rfl Zp4) rfl ?_;clear H a;intro a H
        replace hS:=hS.pk6
        refine Jz H rfl rfl sz25 (hS.blk 0 rfl) (by simp) (((hS.own 1 rfl).slr rfl (fun _ _=>rfl))).one ?_
        clear H;intro lA hN jH hz;clear a;intro a H;replace hS:=hS.setBlk hN jH;clear hN hz
        try simp only [List.set_cons_succ,List.set_cons_zero] at hS
        refine Ze (Za ?_)
        obtain rfl:=Option.some.inj hm;replace hm:=iR;try dsimp only at hm
        replace hS:=hS.pk3
        replace hS:=hS.pk10
        replace hS:=hS.pk10
        replace hS:=hS.pk10
        replace hS:=hS.pk5
        replace hS:=hS.pk10
        replace hS:=hS.pk6
        replace hS:=hS.pk10
        replace hS:=hS.pk10
        replace hS:=hS.tk9
        exact Wh ((aZ ++ [((aN : Nat) : Int)]),(⟨(Vector.replicate 16 0),(IntKind.u32.wrap aP.Entry),1,aP.Prio,0,0⟩ : GProc),j5) H ⟨rfl,rfl,rfl,rfl,rfl,rfl,rfl,trivial⟩ ⟨hm,hS⟩
      replace hm:=Zv hm cD
      refine wp_skip (Za ?_)
      obtain rfl:=Option.some.inj hm;replace hm:=iR;try dsimp only at hm
      replace hS:=hS.pk9
      replace hS:=hS.pk9
      replace hS:=hS.pk9
      replace hS:=hS.pk9
      replace hS:=hS.pk9
      replace hS:=hS.pk9
      replace hS:=hS.pk9
      replace hS:=hS.pk9
      replace hS:=hS.tk9
      exact Wh (aZ,(⟨(Vector.replicate 16 0),(IntKind.u32.wrap aP.Entry),0,aP.Prio,0,0⟩ : GProc),a9) H ⟨rfl,rfl,rfl,rfl,rfl,rfl,rfl,trivial⟩ ⟨hm,hS⟩
    clear H hS hm a;intro xx a lB H hR
    obtain⟨bE,aM,bL⟩:=xx
    simp only [ent,List.map_cons,List.map_nil] at H;(try dsimp only at hR);obtain⟨hm,hS⟩:=hR;try dsimp only [Zag] at hm
    refine wp_region_lit (n_q H (Zd rfl Zp3) rfl (W_q (Zf rfl ((hS.blk 2 rfl).ld ag28 rfl)) rfl (W_q (Zf rfl ((hS.blk 8 rfl).ldAll ag144 (Zub.trans (by simp)))) rfl ?_)));clear H a;intro a H
    refine Qd H Tryz.underlying28 Zub Zuc rfl rfl rfl (cs:=[aM].flatMap Zbh) ((Znm (k:=21) (ds:=Zbh aM) (by rfl) (by simp [Zbh]) (by rfl)).trans (by simp)) rfl ?_
    clear H;intro lC lD hN jI hs;clear a;intro a H
    replace hS:=hS.newBlk hN jI hs;clear hN hs
    replace hS:=hS.blkOwnL (e:=Zbh) (k:=21) [aM] rfl (by simp [Zbh]) (by simp [maxLen])
    replace hS:=hS.pk4
    replace hm:=Tj hm;obtain⟨jJ,hm⟩:=hm
    refine Zb1 (e:=Zbh) H rfl rfl Tryz.underlying28 Tryz.underlying28 (by simp) el144 (hS.own 0 rfl) (((hS.own 1 rfl).slr rfl (fun x _=>Za9 x)).src (fun x _=>Za9 x)) Zi5 jJ (by simp only [maxLen];omega) rfl ?_
    clear H;intro j6 lE hN jK hb;clear a;intro a H;replace hS:=hS.setOwn hN jK hb;clear hN hb
    refine n_q H (Zd rfl Zp3) rfl ?_;clear H a;intro a H
    replace hS:=hS.pk4
    refine Jz H rfl rfl sz28 (hS.blk 0 rfl) (by simp) (((hS.own 1 rfl).slr rfl (fun x _=>Za9 x))).one ?_
    clear H;intro lF hN jL hz;clear a;intro a H;replace hS:=hS.setBlk hN jL;clear hN hz
    try simp only [List.set_cons_succ,List.set_cons_zero] at hS
    refine Ze (Zm (Za (wp_region_lit (n_q H (Kb (i:=aN) (j:=1) rfl rfl (by omega)) rfl (W_q (Zc rfl) rfl ?_)))));clear H a;intro a H
    refine Ze (Za ?_)
    obtain rfl:=Option.some.inj hm
    replace hS:=hS.pk8
    replace hS:=hS.pk8
    replace hS:=hS.pk8
    replace hS:=hS.pk8
    replace hS:=hS.pk5
    replace hS:=hS.pk5
    replace hS:=hS.pk8
    replace hS:=hS.pk8
    replace hS:=hS.tk8
    exact Vh (kM,aN + 1,(aU ++ [aM]),bE,j6,bL) H ⟨rfl,rfl,rfl,rfl,rfl,rfl,trivial⟩ ⟨iQ,hS⟩ (Nat.lt_succ_self _)
  replace hm:=Zv hm b7
  refine wp_exit (Zn (Zn (Zy ?_)))
  obtain rfl:=Option.some.inj hm;have hz : _=jB:=iQ;subst hz;replace hm:=j0;try dsimp only at hm
  refine Za (wp_seq (wp_seq (wp_region_lit (n_q H (Zd rfl Vs) rfl (W_q (Zf rfl ((hS.blk 0 rfl).ld Zgt rfl)) rfl ?_)))));clear H a;intro a H
  obtain⟨lG,lH,bM,kT,kU⟩:=SlR.formV (bJ.ext (Zq.mono _) hS.x)
  refine n_q H (Qf Tryz.underlying22 rfl bM) rfl (W_q (Zc rfl) rfl ?_);clear H a;intro a H
  refine Ze (Za (wp_block ?_))
  replace hS:=hS.nilOwn 82 66
  replace hS:=hS.pk8
  replace hS:=hS.pk8
  replace hS:=hS.pk8
  replace hS:=hS.pk8
  replace hS:=hS.pk8
  replace hS:=hS.pk8
  replace hS:=hS.pk8
  replace hS:=hS.tk8
  replace hm:=Zi hm;obtain⟨iS,hm,jM⟩:=hm;replace hm:=Qg hm;obtain⟨j7,hm⟩:=hm
  refine Jd (σ:=Nat × Nat × (List GPage) × Value) (fun (m,aQ,bB,bC)=>[(2,.pointer (some ⟨bX,0,none⟩)),(4,.pointer (some ⟨aY,0,none⟩)),(60,bD),(61,.int .i64 ((a0.Pages.length : Nat) : Int)),(62,.int .i64 ((aQ : Nat) : Int))]) (fun (m,aQ,bB,bC) wl=>Js (Uu a0) m (aQ,bB)=some iS ∧ St NB w wl [blkR bX [.int .i64 0,.int .i64 0,.int .i64 0,.slice none 0 0,.slice none 0 0,.slice none 0 0,.slice none 0 0,.slice none 0 0,.slice none 0 0,.slice none 0 0] 34,blkR aY [.int .i64 a0.Id,.int .i64 0,.int .i64 0,aX,a9,.slice none 0 0,aR,aS,aT,bC] 34,ownR 144 21 aX aU.length (aU.flatMap Zbh),ownR 3 1 a9 aZ.length (aZ.flatMap eI),ownR 4 1 aR aV.length (aV.flatMap eF),ownR 3 1 aS aW.length (aW.flatMap eI),deepR 154 2 Wu aT bF,ownR 82 66 bC bB.length (bB.flatMap Zct)]) (fun (m,aQ,bB,bC)=>m) (j7,0,([] : List GPage),.slice none 0 0) H ⟨rfl,rfl,rfl,rfl,rfl,trivial⟩ ⟨hm,hS⟩ ?_
  clear H hS hm a;intro xx a lI H hR;obtain⟨m,aQ,bB,bC⟩:=xx;simp only [ent,List.map_cons,List.map_nil] at H;(try dsimp only at hR);obtain⟨hm,hS⟩:=hR
  replace hm:=Qa hm;obtain⟨j8,lJ,rfl,hm,cM⟩:=hm;try dsimp only [Uu] at hm
  refine wp_seq (wp_region_lit (n_q H (Xz (i:=aQ) (j:=a0.Pages.length) rfl rfl) rfl ?_));clear H a;intro a H
  refine Ze (Za (wp_seq (Zl H rfl (fun bN=>?_) (fun bN=>?_))))
  · replace hm:=Zu hm bN
    have kO : aQ < a0.Pages.length:=of_decide_eq_true bN
    refine wp_skip (Za (wp_seq (wp_block (wp_seq (wp_region_lit ?_)))))
    replace hm:=Zi hm;obtain⟨aH,cF,hm⟩:=hm
    obtain⟨kP,cH⟩:=SlR.adV (bJ.ext (Zq.mono _) hS.x) bM cF
    refine n_q H (Jn (i:=aQ) Tryz.underlying22 Tk rfl bM cH rfl (Ho cF)) rfl (W_q (Zf rfl (SlR.ldAggV (bJ.ext (Zq.mono _) hS.x) bM cH Zk1 Tk cF)) rfl ?_);clear H a;intro a H
    refine Qr H Zfl rfl ?_
    clear H;intro lK lL hN jN hs;clear a;intro a H
    replace hS:=hS.newBlk hN jN hs;clear hN hs
    refine Zr H rfl rfl (vs:=[.int .i64 aH.Rights,.string aH.Init]) rfl Tk (hS.blk 0 rfl) rfl (by simp) ?_
    clear H;intro lM hN jO hz;clear a;intro a H;replace hS:=hS.setBlk hN jO;clear hN hz
    refine Ze (Za (wp_seq (wp_region_lit (n_q H (Zd rfl Zeu) rfl (W_q (Zf rfl ((hS.blk 0 rfl).ld ag3 rfl)) rfl (W_q (Zz (cs:=([.int .i64 aH.Rights,.bool false] ++ (Vector.replicate 64 0).toList.map (fun b : UInt8=>Value.int .u8 (b.toNat : Int)))) ze82 bd82 pl82 rfl (by kernel_rfl)) rfl ?_))))));clear H a;intro a H
    refine Qr H ze82 rfl ?_
    clear H;intro j9 lN hN jP hs;clear a;intro a H
    replace hS:=hS.newBlk hN jP hs;clear hN hs
    refine Zr H rfl rfl (vs:=([.int .i64 aH.Rights,.bool false] ++ (Vector.replicate 64 0).toList.map (fun b : UInt8=>Value.int .u8 (b.toNat : Int)))) rfl (sz82.trans (by simp)) (hS.blk 0 rfl) (by simp) (Zi6 (⟨aH.Rights,false,(Vector.replicate 64 0)⟩ : GPage)) ?_
    clear H;intro iT hN jQ hz;clear a;intro a H;replace hS:=hS.setBlk hN jQ;clear hN hz
    refine Ze (Za (wp_seq (Gi [] 4 (by kernel_rfl) ?_)))
    obtain⟨iU,cG⟩ : ∃ x,x=iT.drew:=⟨_,rfl⟩;rw [← cG];have jR : Ext iT iU:=by rw [cG];exact Ext.drew' _
    clear cG
    replace hS:=hS.ext jR
    have jS:=hS
    have hW:=Nat.le_refl iU.heap.size
    refine Zg 0 H rfl (Zd rfl Ztg) rfl (by kernel_rfl) (by kernel_rfl) (by kernel_rfl) (by kernel_rfl) (fun _ _ _ h=>h) ?_;clear H a;intro a H
    refine Zg 1 H rfl (Zog Tryz.underlying80 sz5 rfl (by decide)) rfl (by kernel_rfl) (by kernel_rfl) (by kernel_rfl) (by kernel_rfl) (fun _ _ _ h=>h) ?_;clear H a;intro a H
    refine Zg 2 H rfl (Zd rfl Zhs) rfl (by kernel_rfl) (by kernel_rfl) (by kernel_rfl) (by kernel_rfl) (fun _ _ _ h=>h) ?_;clear H a;intro a H
    refine Xo 3 H rfl (Zf rfl (LdC.old ((jS.blk 1 rfl).ld ag9 rfl) Ext.rfl' (Nat.le_refl _) (by simp))) rfl (by kernel_rfl) (by kernel_rfl) (by kernel_rfl) (by kernel_rfl) (fun _ _ _ h=>h) ?_;clear H a;intro a H
    refine Zpp 4 H rfl Tryz.underlying100 sz5 rfl rfl (hS.blk 0 rfl) (by simp) rfl (by kernel_rfl) (.inr (by kernel_rfl)) ?_
    clear H;intro kA hN cN hz;clear a;intro a H;replace hN:=(congrArg (fun z=>Blk kA j9 z 82) (Zpq (A:=[Value.int .i64 aH.Rights,Value.bool false]) (v:=(Vector.replicate 64 0)) (s:=aH.Init))).mp hN;replace hS:=hS.setBlk hN cN;clear hN hz;replace hW:=Nat.le_trans hW cN.size
    refine Qx (by kernel_rfl) ?_
    refine Za (wp_region_lit (n_q H (Zd rfl Znq) rfl (W_q (Zf rfl ((hS.blk 3 rfl).ld ag32 rfl)) rfl (W_q (Zf rfl ((hS.blk 0 rfl).ldAll ag82 (sz82.trans (by simp)))) rfl ?_))));clear H a;intro a H
    refine Qd H Tryz.underlying32 sz82 ze82 rfl rfl rfl (cs:=[(⟨aH.Rights,false,(Zrd (Vector.replicate 64 0) aH.Init)⟩ : GPage)].flatMap Zct) ((Znm (k:=66) (ds:=Zct (⟨aH.Rights,false,(Zrd (Vector.replicate 64 0) aH.Init)⟩ : GPage)) (by rfl) (by simp [Zct]) (by rfl)).trans (by simp)) rfl ?_
    clear H;intro lO lP hN jT hs;clear a;intro a H
    replace hS:=hS.newBlk hN jT hs;clear hN hs
    replace hS:=hS.blkOwnL (e:=Zct) (k:=66) [(⟨aH.Rights,false,(Zrd (Vector.replicate 64 0) aH.Init)⟩ : GPage)] rfl (by simp [Zct]) (by simp [maxLen])
    replace hS:=hS.pk10
    replace hm:=Tj hm;obtain⟨jU,hm⟩:=hm
    refine Zb1 (e:=Zct) H rfl rfl Tryz.underlying32 Tryz.underlying32 (by simp) el82 (hS.own 0 rfl) (((hS.own 1 rfl).slr rfl (fun x _=>Th x)).src (fun x _=>Th x)) Zi6 jU (by simp only [maxLen];omega) rfl ?_
    clear H;intro kC lQ hN jV hb;clear a;intro a H;replace hS:=hS.setOwn hN jV hb;clear hN hb
    refine n_q H (Zd rfl Znq) rfl ?_;clear H a;intro a H
    replace hS:=hS.pk5
    refine Jz H rfl rfl sz32 (hS.blk 0 rfl) (by simp) (((hS.own 1 rfl).slr rfl (fun x _=>Th x))).one ?_
    clear H;intro lR hN jW hz;clear a;intro a H;replace hS:=hS.setBlk hN jW;clear hN hz
    try simp only [List.set_cons_succ,List.set_cons_zero] at hS
    refine Ze (Zm (Za (wp_region_lit (n_q H (Kb (i:=aQ) (j:=1) rfl rfl (by omega)) rfl (W_q (Zc rfl) rfl ?_)))));clear H a;intro a H
    refine Ze (Za ?_)
    obtain rfl:=Option.some.inj hm
    replace hS:=hS.pk1
    replace hS:=hS.pk10
    replace hS:=hS.pk10
    replace hS:=hS.pk10
    replace hS:=hS.pk10
    replace hS:=hS.pk10
    replace hS:=hS.pk6
    replace hS:=hS.pk10
    replace hS:=hS.tk8
    exact Vh (j8,aQ + 1,(bB ++ [(⟨aH.Rights,false,(Zrd (Vector.replicate 64 0) aH.Init)⟩ : GPage)]),kC) H ⟨rfl,rfl,rfl,rfl,rfl,trivial⟩ ⟨cM,hS⟩ (Nat.lt_succ_self _)
  replace hm:=Zv hm bN
  refine wp_exit (Zn (Zn (Zy ?_)))
  obtain rfl:=Option.some.inj hm;have hz : _=iS:=cM;subst hz;replace hm:=jM;try dsimp only at hm
  refine Za (wp_seq (wp_region_lit (n_q H (Zf rfl ((hS.blk 1 rfl).ldAll ag34 Ze9)) rfl ?_)));clear H a;intro a H
  refine Zr H rfl rfl (vs:=[.int .i64 a0.Id,.int .i64 0,.int .i64 0,aX,a9,.slice none 0 0,aR,aS,aT,bC]) rfl Ze9 (hS.blk 0 rfl) rfl (by simp [(((hS.own 2 rfl).slr rfl (fun x _=>Za9 x))).one,(((hS.own 3 rfl).slr rfl (fun _ _=>rfl))).one,(((hS.own 4 rfl).slr rfl (fun _ _=>rfl))).one,(((hS.own 5 rfl).slr rfl (fun _ _=>rfl))).one,((hS.deepSl 6 rfl)).one,(((hS.own 7 rfl).slr rfl (fun x _=>Th x))).one]) ?_
  clear H;intro lS hN jX hz;clear a;intro a H;replace hS:=hS.setBlk hN jX;clear hN hz
  refine n_q H (Zb rfl) rfl ?_;clear H a;intro a H
  refine Ze (Za (wp_ret ?_))
  obtain rfl:=Option.some.inj hm
  replace hS:=hS.nilOwn 163 2
  replace hS:=hS.dNil (A:=A)
  replace hS:=hS.pk2
  replace hS:=hS.pk1
  replace hS:=hS.pk9
  replace hS:=hS.pk9
  replace hS:=hS.pk9
  replace hS:=hS.pk9
  replace hS:=hS.pk6
  replace hS:=hS.pk9
  replace hS:=hS.pk9
  replace hS:=hS.tk9
  refine Ti H (.inr rfl) rfl (vs:=[.agg #[.int .i64 a0.Id,.int .i64 0,.int .i64 0,aX,a9,.slice none 0 0,aR,aS,aT,bC],.nilIface]) (Qm rfl ((hS.blk 8 rfl).ldAll ag34 Ze9) (Xh rfl Qv)) ?_
  replace hS:=hS.tk8
  exact⟨_,_,_,_,_,_,_,_,rfl,hS⟩
theorem Zio {w : World} {A : Nat → Addr} {cs0 : List Value} {a0 : GPlan} (hG : EV A w) (h0 : Qw w cs0 a0) {r : Int × ErrM} (hm : Zan a0=some r) :
    Calls Tryz.prog 67 [.agg cs0.toArray].toArray w (Ret fun u w'=>∃ h_0,u=.tuple #[.int .i64 r.1,h_0] ∧ St NB w w' [erQ A h_0 r.2]):=by
  obtain⟨aA,aB,aC,aD,rfl,aE,aF,aG,aH⟩:=h0
  have hS:=St.begin NB w
  unfold Zan at hm
  refine enter Tryz.func67 rfl rfl rfl ?_;intro a H;dsimp only [Qk,Nat.zero_add,Nat.reduceAdd] at H
  refine wp_seq (wp_region_lit (Wt H rfl (cs:=[.int .i64 a0.Id,.bool a0.Mobile,aA,aB,aC,.int .i64 a0.Events,aD]) rfl rfl ?_))
  clear H;intro aS aT hN aM hs;clear a;intro a H
  replace hS:=hS.newBlk hN aM hs;clear hN hs
  refine n_q H (Zb rfl) rfl (W_q (Zb rfl) rfl ?_);clear H a;intro a H
  refine Ze (Za (wp_seq (wp_seq (wp_region_lit (n_q H (Zf rfl ((hS.blk 0 rfl).ldAll Zap Ut)) rfl ?_)))));clear H a;intro a H
  replace hm:=Zi hm;obtain⟨aJ,aN,hm⟩:=hm
  refine Zj H rfl en57 (Ht (A:=A) (hG.ext hS.x) (⟨_,_,_,_,rfl,(aE.ext (Zq.mono _) hS.x),(aF.ext (Zq.mono _) hS.x),(aG.ext (Zq.mono _) hS.x),(aH.ext (Zq.mono _) hS.x)⟩ : Qw _ [.int .i64 a0.Id,.bool a0.Mobile,aA,aB,aC,.int .i64 a0.Events,aD] a0) aN) rfl ?_
  clear H;intro aK aL hv;clear a;intro a H;obtain⟨_,rfl,aO⟩:=hv
  replace hS:=hS.new aO;simp only [List.cons_append,List.nil_append] at hS
  refine n_q H (Qo (Va Tryz.underlying39 rfl rfl (hS.any 0 rfl : IsE A aL aK aJ).form) (show _=Value.bool (!decide (aJ=.nil)) by rw [Xw.isNil (hS.any 0 rfl : IsE A aL aK aJ)])) rfl ?_;clear H a;intro a H
  refine Ze (Za (Zl H rfl (fun aI=>?_) (fun aI=>?_)))
  · replace hm:=Zu hm aI
    refine wp_seq (Ww (by kernel_rfl) (by kernel_rfl) ?_)
    refine Xb H (Zf rfl ((hG.ext hS.x).ld Hr (by decide) Hv)) rfl ?_;clear H a;intro a H
    refine Xb H (Zb rfl) rfl ?_;clear H a;intro a H
    refine Xb H (Zb rfl) rfl ?_;clear H a;intro a H
    refine To ?_;intro aU aP
    replace hS:=hS.ext aP
    refine Za (wp_ret (Zh ?_))
    obtain rfl:=Option.some.inj hm
    replace hS:=hS.dVar (A:=A) (g:=Hr) (by decide)
    replace hS:=hS.tk1
    refine Zda H (.inr rfl) rfl rfl rfl ?_
    exact⟨_,rfl,hS⟩
  replace hm:=Zv hm aI
  refine wp_skip (Za (wp_seq (wp_region_lit (n_q H (Zf rfl ((hS.blk 1 rfl).ldAll Zap Ut)) rfl ?_))));clear H a;intro a H
  replace hm:=Zi hm;obtain⟨aV,aQ,hm⟩:=hm
  refine Zj H rfl en140 (Zej (A:=A) (hG.ext hS.x) (⟨_,_,_,_,rfl,(aE.ext (Zq.mono _) hS.x),(aF.ext (Zq.mono _) hS.x),(aG.ext (Zq.mono _) hS.x),(aH.ext (Zq.mono _) hS.x)⟩ : Qw _ [.int .i64 a0.Id,.bool a0.Mobile,aA,aB,aC,.int .i64 a0.Events,aD] a0) aQ) rfl ?_
  clear H;intro aW aX hv;clear a;intro a H;obtain⟨rfl,aR⟩:=hv
  replace hS:=hS.ext aR
  refine n_q H (Zb rfl) rfl (W_q (Zb rfl) rfl ?_);clear H a;intro a H
  refine Ze (Za (wp_ret ?_))
  obtain rfl:=Option.some.inj hm
  replace hS:=hS.dNil (A:=A)
  replace hS:=hS.tk1
  refine Zda H (.inr rfl) rfl rfl rfl ?_
  exact⟨_,rfl,hS⟩
set_option maxHeartbeats 1000000 in
theorem Zhv {w : World} {A : Nat → Addr} (hG : EV A w) (hH : HE w) {r : Bool} (hm : Tq=some r) :
    Calls Tryz.prog 45 [].toArray w (Ret fun u w'=>u=.bool r ∧ Ext w w'):=by
  have hS:=St.begin NB w
  unfold Tq at hm
  refine enter Tryz.func45 rfl rfl rfl ?_;intro a H;dsimp only [Qk,Nat.zero_add,Nat.reduceAdd] at H
  refine wp_seq (wp_region_lit (n_q H (Zb rfl) rfl ?_));clear H a;intro a H
  refine Ze (Za (wp_seq (wp_region_lit ?_)))
  replace hm:=Zi hm;obtain⟨aA,cL,hm⟩:=hm
  refine Zj H rfl en46 (Zhu (A:=A) cL) rfl ?_
  clear H;intro eE eG hv;clear a;intro a H;obtain⟨aM,aN,aO,aP,rfl,cM⟩:=hv
  replace hS:=hS.new cM;simp only [List.cons_append,List.nil_append] at hS
  refine Qr H Zg9 rfl ?_
  clear H;intro bK eH hN cN hs;clear a;intro a H
  replace hS:=hS.newBlk hN cN hs;clear hN hs
  refine Zr H rfl rfl (vs:=[.int .i64 aA.Id,.bool aA.Mobile,aM,aN,aO,.int .i64 aA.Events,aP]) rfl Ut (hS.blk 0 rfl) rfl (by simp [(((hS.own 1 rfl).slr rfl (fun _ _=>rfl))).one,(((hS.own 2 rfl).slr rfl (fun _ _=>rfl))).one,(((hS.own 3 rfl).slr rfl (fun _ _=>rfl))).one,(((hS.own 4 rfl).slr rfl (fun _ _=>rfl))).one]) ?_
  clear H;intro eJ hN cO hz;clear a;intro a H;replace hS:=hS.setBlk hN cO;clear hN hz
  refine Ze (Za (wp_seq (wp_region_lit (n_q H (Zf rfl ((hS.blk 0 rfl).ldAll Zap Ut)) rfl ?_))));clear H a;intro a H
  replace hm:=Zi hm;obtain⟨bI,cP,hm⟩:=hm
  refine Zj H rfl en67 (Zio (A:=A) (hG.ext hS.x) (⟨_,_,_,_,rfl,((hS.own 1 rfl).slr rfl (fun _ _=>rfl)),((hS.own 2 rfl).slr rfl (fun _ _=>rfl)),((hS.own 3 rfl).slr rfl (fun _ _=>rfl)),((hS.own 4 rfl).slr rfl (fun _ _=>rfl))⟩ : Qw _ [.int .i64 aA.Id,.bool aA.Mobile,aM,aN,aO,.int .i64 aA.Events,aP] aA) cP) rfl ?_
  clear H;intro eK eL hv;clear a;intro a H;obtain⟨cK,rfl,cQ⟩:=hv
  replace hS:=hS.new cQ;simp only [List.cons_append,List.nil_append] at hS
  refine n_q H (Zc rfl) rfl (W_q (Zk rfl rfl) rfl (W_q (Zk rfl rfl) rfl (W_q (Zb rfl) rfl (W_q (Zb rfl) rfl ?_))));clear H a;intro a H
  refine Ze (Za (wp_seq ?_))
  replace hm:=Zi hm;obtain⟨eM,hm,bJ⟩:=hm
  refine Hj (σ:=Bool) H (fun bC=>[(1,.pointer (some ⟨bK,0,none⟩)),(23,.bool bC)]) (fun bC wl=>(Hx aA) bC=some r ∧ St NB w wl [blkR bK [.int .i64 aA.Id,.bool aA.Mobile,aM,aN,aO,.int .i64 aA.Events,aP] 27,ownR 114 2 aM aA.Pages.length (aA.Pages.flatMap Qc),ownR 116 3 aN aA.Procs.length (aA.Procs.flatMap Zx),ownR 118 4 aO aA.Ports.length (aA.Ports.flatMap Zw),ownR 3 1 aP aA.Sems.length (aA.Sems.flatMap eI)]) ?_ ?_
  · skip
    refine wp_region_lit (n_q H (Zf rfl ((hS.blk 1 rfl).ldAll Zap Ut)) rfl ?_);clear H a;intro a H
    replace hm:=Zi hm;obtain⟨bD,bZ,hm⟩:=hm
    refine Zj H rfl en57 (Ht (A:=A) (hG.ext hS.x) (⟨_,_,_,_,rfl,((hS.own 2 rfl).slr rfl (fun _ _=>rfl)),((hS.own 3 rfl).slr rfl (fun _ _=>rfl)),((hS.own 4 rfl).slr rfl (fun _ _=>rfl)),((hS.own 5 rfl).slr rfl (fun _ _=>rfl))⟩ : Qw _ [.int .i64 aA.Id,.bool aA.Mobile,aM,aN,aO,.int .i64 aA.Events,aP] aA) bZ) rfl ?_
    clear H;intro bO bE hv;clear a;intro a H;obtain⟨_,rfl,b7⟩:=hv
    replace hS:=hS.new b7;simp only [List.cons_append,List.nil_append] at hS
    refine n_q H (Qo (Va Tryz.underlying39 rfl rfl (hS.any 0 rfl : IsE A bE bO bD).form) (show _=Value.bool (!decide (bD=.nil)) by rw [Xw.isNil (hS.any 0 rfl : IsE A bE bO bD)])) rfl (W_q (Zc rfl) rfl ?_);clear H a;intro a H
    rcases Bool.eq_false_or_eq_true (!decide (bD=.nil)) with aQ|aQ
    · replace H:=H.know 16 rfl aQ
      replace hm:=Zu hm aQ
      refine Zci H rfl rfl (by decide) rfl (Qn rfl rfl (by decide) rfl (W_q (Qi rfl rfl) rfl (W_q (Zc rfl) rfl (Qn rfl rfl (by decide) rfl (Qn rfl rfl (by decide) rfl (W_q (Qi rfl rfl) rfl ?_))))));clear H a;intro a H
      refine Ze (Za ?_)
      obtain rfl:=Option.some.inj hm;replace hm:=bJ;try dsimp only at hm
      replace hS:=hS.pk6
      replace hS:=hS.pk6
      replace hS:=hS.pk6
      replace hS:=hS.pk6
      replace hS:=hS.pk6
      replace hS:=hS.tk5
      exact Wh true H ⟨rfl,rfl,trivial⟩ ⟨hm,hS⟩
    replace H:=H.know 16 rfl aQ
    replace hm:=Zv hm aQ
    refine Wb H rfl rfl (n_q H (Zc rfl) rfl (Xe rfl rfl (W_q (Qo (Va Tryz.underlying39 rfl rfl (hS.any 1 rfl : IsE A bE cK bI.2).form) (show _=Value.bool (!decide (bI.2=.nil)) by rw [Xw.isNil (hS.any 1 rfl : IsE A bE cK bI.2)])) rfl (W_q (Jf rfl rfl) rfl (W_q (Zc rfl) rfl ?_)))));clear H a;intro a H
    rcases Bool.eq_false_or_eq_true (!decide (bI.2=.nil)) with aR|aR
    · replace H:=H.know 20 rfl aR
      replace hm:=Zu hm aR
      refine Zci H rfl rfl (by decide) rfl (Qn rfl rfl (by decide) rfl (W_q (Qi rfl rfl) rfl ?_));clear H a;intro a H
      refine Ze (Za ?_)
      obtain rfl:=Option.some.inj hm;replace hm:=bJ;try dsimp only at hm
      replace hS:=hS.pk6
      replace hS:=hS.pk6
      replace hS:=hS.pk6
      replace hS:=hS.pk6
      replace hS:=hS.pk6
      replace hS:=hS.tk5
      exact Wh true H ⟨rfl,rfl,trivial⟩ ⟨hm,hS⟩
    replace H:=H.know 20 rfl aR
    replace hm:=Zv hm aR
    refine Wb H rfl rfl (n_q H (Zc rfl) rfl (Xe rfl rfl (W_q (Vo rfl rfl) rfl (W_q (Jf rfl rfl) rfl ?_))));clear H a;intro a H
    refine Ze (Za ?_)
    obtain rfl:=Option.some.inj hm;replace hm:=bJ;try dsimp only at hm
    replace hS:=hS.pk6
    replace hS:=hS.pk6
    replace hS:=hS.pk6
    replace hS:=hS.pk6
    replace hS:=hS.pk6
    replace hS:=hS.tk5
    exact Wh (!decide (bI.1=363)) H ⟨rfl,rfl,trivial⟩ ⟨hm,hS⟩
  clear H hS hm a;intro bC a dY H hR
  simp only [ent,List.map_cons,List.map_nil] at H;(try dsimp only at hR);obtain⟨hm,hS⟩:=hR;try dsimp only [Hx] at hm
  refine Zl H rfl (fun bF=>?_) (fun bF=>?_)
  · replace hm:=Zu hm bF
    refine wp_seq (wp_region_lit (n_q H (Zb rfl) rfl ?_));clear H a;intro a H
    refine Ze (Za (wp_ret (Zh ?_)))
    obtain rfl:=Option.some.inj hm
    replace hS:=hS.tk0
    refine Je H (.inr rfl) rfl rfl ?_
    exact⟨rfl,hS.x⟩
  replace hm:=Zv hm bF
  refine wp_skip (Za (wp_seq (wp_region_lit (n_q H (Zf rfl ((hS.blk 0 rfl).ldAll Zap Ut)) rfl ?_))));clear H a;intro a H
  replace hm:=Zi hm;obtain⟨aB,b8,hm⟩:=hm
  refine Zj H rfl en53 (Zjx (A:=A) (hG.ext hS.x) (⟨_,_,_,_,rfl,((hS.own 1 rfl).slr rfl (fun _ _=>rfl)),((hS.own 2 rfl).slr rfl (fun _ _=>rfl)),((hS.own 3 rfl).slr rfl (fun _ _=>rfl)),((hS.own 4 rfl).slr rfl (fun _ _=>rfl))⟩ : Qw _ [.int .i64 aA.Id,.bool aA.Mobile,aM,aN,aO,.int .i64 aA.Events,aP] aA) b8) rfl ?_
  clear H;intro dZ d5 hv;clear a;intro a H;obtain⟨cR,cT,cU,cV,cW,cX,cY,bP,rfl,b9⟩:=hv
  replace hS:=hS.new b9;simp only [List.cons_append,List.nil_append] at hS
  refine n_q H (Zc rfl) rfl (W_q (Zk rfl rfl) rfl (W_q (Zk rfl rfl) rfl ?_));clear H a;intro a H
  refine Qr H Zcd rfl ?_
  clear H;intro d7 d8 hN cA hs;clear a;intro a H
  replace hS:=hS.newBlk hN cA hs;clear hN hs
  refine Zr H rfl rfl (vs:=[.int .i64 aB.1.Id,.int .i64 aB.1.Frame,.int .i64 aB.1.Epoch,cR,cT,cU,cV,cW,cX,cY]) rfl Ze9 (hS.blk 0 rfl) rfl (by simp [(((hS.own 1 rfl).slr rfl (fun x _=>Za9 x))).one,(((hS.own 2 rfl).slr rfl (fun _ _=>rfl))).one,(((hS.own 3 rfl).slr rfl (fun _ _=>rfl))).one,(((hS.own 4 rfl).slr rfl (fun _ _=>rfl))).one,(((hS.own 5 rfl).slr rfl (fun _ _=>rfl))).one,((hS.deepSl 6 rfl)).one,(((hS.own 7 rfl).slr rfl (fun x _=>Th x))).one]) ?_
  clear H;intro d9 hN cB hz;clear a;intro a H;replace hS:=hS.setBlk hN cB;clear hN hz
  refine n_q H (Zb rfl) rfl ?_;clear H a;intro a H
  refine Ze (Za (wp_seq (wp_region_lit (n_q H (Zf rfl ((hS.blk 9 rfl).ldAll Zap Ut)) rfl ?_))));clear H a;intro a H
  replace hm:=Zi hm;obtain⟨aD,cC,hm⟩:=hm
  refine Zj H rfl en47 (Zaj (A:=A) (hG.ext hS.x) (⟨_,_,_,_,rfl,((hS.own 10 rfl).slr rfl (fun _ _=>rfl)),((hS.own 11 rfl).slr rfl (fun _ _=>rfl)),((hS.own 12 rfl).slr rfl (fun _ _=>rfl)),((hS.own 13 rfl).slr rfl (fun _ _=>rfl))⟩ : Qw _ [.int .i64 aA.Id,.bool aA.Mobile,aM,aN,aO,.int .i64 aA.Events,aP] aA) cC) rfl ?_
  clear H;intro eA bG hv;clear a;intro a H;obtain⟨eC,bQ,rfl,cD⟩:=hv
  replace hS:=hS.new cD;simp only [List.cons_append,List.nil_append] at hS
  refine n_q H (Zc rfl) rfl (W_q (Zk rfl rfl) rfl (W_q (Zk rfl rfl) rfl (W_q (Zb rfl) rfl (W_q (Zb rfl) rfl ?_))));clear H a;intro a H
  refine Ze (Za (wp_seq ?_))
  replace hm:=Zi hm;obtain⟨eD,hm,aC⟩:=hm
  refine Hj (σ:=Bool) H (fun aT=>[(1,.pointer (some ⟨bK,0,none⟩)),(77,.bool aT)]) (fun aT wl=>(Hw aA) aT=some r ∧ St NB w wl [blkR bK [.int .i64 aA.Id,.bool aA.Mobile,aM,aN,aO,.int .i64 aA.Events,aP] 27,ownR 114 2 aM aA.Pages.length (aA.Pages.flatMap Qc),ownR 116 3 aN aA.Procs.length (aA.Procs.flatMap Zx),ownR 118 4 aO aA.Ports.length (aA.Ports.flatMap Zw),ownR 3 1 aP aA.Sems.length (aA.Sems.flatMap eI)]) ?_ ?_
  · skip
    refine wp_region_lit (n_q H (Zc rfl) rfl (W_q (Qo (Va Tryz.underlying39 rfl rfl (hS.any 10 rfl : IsE A bG bP aB.2).form) (show _=Value.bool (!decide (aB.2=.nil)) by rw [Xw.isNil (hS.any 10 rfl : IsE A bG bP aB.2)])) rfl (W_q (Zc rfl) rfl ?_)));clear H a;intro a H
    rcases Bool.eq_false_or_eq_true (!decide (aB.2=.nil)) with aE|aE
    · replace H:=H.know 36 rfl aE
      replace hm:=Zu hm aE
      refine Zci H rfl rfl (by decide) rfl (Qn rfl rfl (by decide) rfl (W_q (Qi rfl rfl) rfl (W_q (Zc rfl) rfl (Qn rfl rfl (by decide) rfl (Qn rfl rfl (by decide) rfl (Qn rfl rfl (by decide) rfl (Qn rfl rfl (by decide) rfl (W_q (Qi rfl rfl) rfl (W_q (Zc rfl) rfl (Qn rfl rfl (by decide) rfl (Qn rfl rfl (by decide) rfl ?_)))))))))));clear H a;intro a H
      refine Zci H rfl rfl (by decide) rfl (Qn rfl rfl (by decide) rfl (W_q (Qi rfl rfl) rfl (W_q (Zc rfl) rfl (Qn rfl rfl (by decide) rfl (Qn rfl rfl (by decide) rfl (Qn rfl rfl (by decide) rfl (Qn rfl rfl (by decide) rfl (W_q (Qi rfl rfl) rfl (W_q (Zc rfl) rfl (Qn rfl rfl (by decide) rfl (Qn rfl rfl (by decide) rfl ?_)))))))))));clear H a;intro a H
      refine Zci H rfl rfl (by decide) rfl (Qn rfl rfl (by decide) rfl (Qn rfl rfl (by decide) rfl (Qn rfl rfl (by decide) rfl (Qn rfl rfl (by decide) rfl (W_q (Qi rfl rfl) rfl (W_q (Zc rfl) rfl (Qn rfl rfl (by decide) rfl (Qn rfl rfl (by decide) rfl (Qn rfl rfl (by decide) rfl (W_q (Qi rfl rfl) rfl (W_q (Zc rfl) rfl ?_)))))))))));clear H a;intro a H
      refine Zci H rfl rfl (by decide) rfl (Qn rfl rfl (by decide) rfl (Qn rfl rfl (by decide) rfl (Qn rfl rfl (by decide) rfl (W_q (Qi rfl rfl) rfl ?_))));clear H a;intro a H
      refine Ze (Za ?_)
      obtain rfl:=Option.some.inj hm;replace hm:=aC;try dsimp only at hm
      replace hS:=hS.pick 15 rfl;dsimp only [List.eraseIdx] at hS
      replace hS:=hS.pick 15 rfl;dsimp only [List.eraseIdx] at hS
      replace hS:=hS.pick 15 rfl;dsimp only [List.eraseIdx] at hS
      replace hS:=hS.pick 15 rfl;dsimp only [List.eraseIdx] at hS
      replace hS:=hS.pick 15 rfl;dsimp only [List.eraseIdx] at hS
      replace hS:=hS.tk5
      exact Wh true H ⟨rfl,rfl,trivial⟩ ⟨hm,hS⟩
    replace H:=H.know 36 rfl aE
    replace hm:=Zv hm aE
    refine Wb H rfl rfl (n_q H (Zc rfl) rfl (Xe rfl rfl (W_q (Qo (Va Tryz.underlying39 rfl rfl (hS.any 1 rfl : IsE A bG bQ aD.2).form) (show _=Value.bool (!decide (aD.2=.nil)) by rw [Xw.isNil (hS.any 1 rfl : IsE A bG bQ aD.2)])) rfl (W_q (Jf rfl rfl) rfl (W_q (Zc rfl) rfl ?_)))));clear H a;intro a H
    rcases Bool.eq_false_or_eq_true (!decide (aD.2=.nil)) with aF|aF
    · replace H:=H.know 40 rfl aF
      replace hm:=Zu hm aF
      refine Zci H rfl rfl (by decide) rfl (Qn rfl rfl (by decide) rfl (Qn rfl rfl (by decide) rfl (Qn rfl rfl (by decide) rfl (W_q (Qi rfl rfl) rfl (W_q (Zc rfl) rfl (Qn rfl rfl (by decide) rfl (Qn rfl rfl (by decide) rfl (Qn rfl rfl (by decide) rfl (Qn rfl rfl (by decide) rfl (W_q (Qi rfl rfl) rfl (W_q (Zc rfl) rfl ?_)))))))))));clear H a;intro a H
      refine Zci H rfl rfl (by decide) rfl (Qn rfl rfl (by decide) rfl (Qn rfl rfl (by decide) rfl (Qn rfl rfl (by decide) rfl (W_q (Qi rfl rfl) rfl (W_q (Zc rfl) rfl (Qn rfl rfl (by decide) rfl (Qn rfl rfl (by decide) rfl (Qn rfl rfl (by decide) rfl (Qn rfl rfl (by decide) rfl (Qn rfl rfl (by decide) rfl (Qn rfl rfl (by decide) rfl ?_)))))))))));clear H a;intro a H
      refine Zci H rfl rfl (by decide) rfl (W_q (Qi rfl rfl) rfl (W_q (Zc rfl) rfl (Qn rfl rfl (by decide) rfl (Qn rfl rfl (by decide) rfl (Qn rfl rfl (by decide) rfl (W_q (Qi rfl rfl) rfl (W_q (Zc rfl) rfl (Qn rfl rfl (by decide) rfl (Qn rfl rfl (by decide) rfl (Qn rfl rfl (by decide) rfl (Qn rfl rfl (by decide) rfl ?_)))))))))));clear H a;intro a H
      refine n_q H (Qi rfl rfl) rfl ?_;clear H a;intro a H
      refine Ze (Za ?_)
      obtain rfl:=Option.some.inj hm;replace hm:=aC;try dsimp only at hm
      replace hS:=hS.pick 15 rfl;dsimp only [List.eraseIdx] at hS
      replace hS:=hS.pick 15 rfl;dsimp only [List.eraseIdx] at hS
      replace hS:=hS.pick 15 rfl;dsimp only [List.eraseIdx] at hS
      replace hS:=hS.pick 15 rfl;dsimp only [List.eraseIdx] at hS
      replace hS:=hS.pick 15 rfl;dsimp only [List.eraseIdx] at hS
      replace hS:=hS.tk5
      exact Wh true H ⟨rfl,rfl,trivial⟩ ⟨hm,hS⟩
    replace H:=H.know 40 rfl aF
    replace hm:=Zv hm aF
    refine Wb H rfl rfl (n_q H (Zd rfl Zp3) rfl (Xe rfl rfl (W_q (Zf rfl ((hS.blk 2 rfl).ld ag28 rfl)) rfl (Xe rfl rfl ?_))));clear H a;intro a H
    obtain⟨dL,dM,bR,dB,dC⟩:=SlR.formV ((hS.own 3 rfl).slr rfl (fun x _=>Za9 x))
    refine n_q H (Qf Tryz.underlying28 rfl bR) rfl (Xe rfl rfl (W_q (Zfi (i:=aB.1.Procs.length) (j:=2) rfl rfl) rfl (W_q (Jf rfl rfl) rfl (W_q (Zc rfl) rfl ?_))));clear H a;intro a H
    rcases Bool.eq_false_or_eq_true (!decide (aB.1.Procs.length=2)) with aG|aG
    · replace H:=H.know 46 rfl aG
      replace hm:=Zu hm aG
      refine Zci H rfl rfl (by decide) rfl (Qn rfl rfl (by decide) rfl (Qn rfl rfl (by decide) rfl (Qn rfl rfl (by decide) rfl (W_q (Qi rfl rfl) rfl (W_q (Zc rfl) rfl (Qn rfl rfl (by decide) rfl (Qn rfl rfl (by decide) rfl (Qn rfl rfl (by decide) rfl (Qn rfl rfl (by decide) rfl (W_q (Qi rfl rfl) rfl (W_q (Zc rfl) rfl ?_)))))))))));clear H a;intro a H
      refine Zci H rfl rfl (by decide) rfl (Qn rfl rfl (by decide) rfl (Qn rfl rfl (by decide) rfl (Qn rfl rfl (by decide) rfl (Qn rfl rfl (by decide) rfl (Qn rfl rfl (by decide) rfl (Qn rfl rfl (by decide) rfl (W_q (Qi rfl rfl) rfl (W_q (Zc rfl) rfl (Qn rfl rfl (by decide) rfl (Qn rfl rfl (by decide) rfl (Qn rfl rfl (by decide) rfl ?_)))))))))));clear H a;intro a H
      refine n_q H (Qi rfl rfl) rfl (W_q (Zc rfl) rfl (Qn rfl rfl (by decide) rfl (Qn rfl rfl (by decide) rfl (Qn rfl rfl (by decide) rfl (Qn rfl rfl (by decide) rfl (W_q (Qi rfl rfl) rfl ?_))))));clear H a;intro a H
      refine Ze (Za ?_)
      obtain rfl:=Option.some.inj hm;replace hm:=aC;try dsimp only at hm
      replace hS:=hS.pick 15 rfl;dsimp only [List.eraseIdx] at hS
      replace hS:=hS.pick 15 rfl;dsimp only [List.eraseIdx] at hS
      replace hS:=hS.pick 15 rfl;dsimp only [List.eraseIdx] at hS
      replace hS:=hS.pick 15 rfl;dsimp only [List.eraseIdx] at hS
      replace hS:=hS.pick 15 rfl;dsimp only [List.eraseIdx] at hS
      replace hS:=hS.tk5
      exact Wh true H ⟨rfl,rfl,trivial⟩ ⟨hm,hS⟩
    replace H:=H.know 46 rfl aG
    replace hm:=Zv hm aG
    refine Wb H rfl rfl (n_q H (Zd rfl Zp4) rfl (Xe rfl rfl (W_q (Zf rfl ((hS.blk 2 rfl).ld Zij rfl)) rfl (Xe rfl rfl ?_))));clear H a;intro a H
    obtain⟨dN,dO,bS,dD,dE⟩:=SlR.formV ((hS.own 4 rfl).slr rfl (fun _ _=>rfl))
    refine n_q H (Qf Tryz.underlying25 rfl bS) rfl (Xe rfl rfl (W_q (Zfi (i:=aB.1.Ready.length) (j:=1) rfl rfl) rfl (W_q (Jf rfl rfl) rfl (W_q (Zc rfl) rfl ?_))));clear H a;intro a H
    rcases Bool.eq_false_or_eq_true (!decide (aB.1.Ready.length=1)) with aH|aH
    · replace H:=H.know 52 rfl aH
      replace hm:=Zu hm aH
      refine Zci H rfl rfl (by decide) rfl (Qn rfl rfl (by decide) rfl (Qn rfl rfl (by decide) rfl (Qn rfl rfl (by decide) rfl (W_q (Qi rfl rfl) rfl (W_q (Zc rfl) rfl (Qn rfl rfl (by decide) rfl (Qn rfl rfl (by decide) rfl (Qn rfl rfl (by decide) rfl (Qn rfl rfl (by decide) rfl (Qn rfl rfl (by decide) rfl (Qn rfl rfl (by decide) rfl ?_)))))))))));clear H a;intro a H
      refine Zci H rfl rfl (by decide) rfl (W_q (Qi rfl rfl) rfl (W_q (Zc rfl) rfl (Qn rfl rfl (by decide) rfl (Qn rfl rfl (by decide) rfl (Qn rfl rfl (by decide) rfl (W_q (Qi rfl rfl) rfl (W_q (Zc rfl) rfl (Qn rfl rfl (by decide) rfl (Qn rfl rfl (by decide) rfl (Qn rfl rfl (by decide) rfl (Qn rfl rfl (by decide) rfl ?_)))))))))));clear H a;intro a H
      refine n_q H (Qi rfl rfl) rfl ?_;clear H a;intro a H
      refine Ze (Za ?_)
      obtain rfl:=Option.some.inj hm;replace hm:=aC;try dsimp only at hm
      replace hS:=hS.pick 15 rfl;dsimp only [List.eraseIdx] at hS
      replace hS:=hS.pick 15 rfl;dsimp only [List.eraseIdx] at hS
      replace hS:=hS.pick 15 rfl;dsimp only [List.eraseIdx] at hS
      replace hS:=hS.pick 15 rfl;dsimp only [List.eraseIdx] at hS
      replace hS:=hS.pick 15 rfl;dsimp only [List.eraseIdx] at hS
      replace hS:=hS.tk5
      exact Wh true H ⟨rfl,rfl,trivial⟩ ⟨hm,hS⟩
    replace H:=H.know 52 rfl aH
    replace hm:=Zv hm aH
    refine Wb H rfl rfl (n_q H (Zd rfl Znq) rfl (Xe rfl rfl (W_q (Zf rfl ((hS.blk 2 rfl).ld ag32 rfl)) rfl (Xe rfl rfl ?_))));clear H a;intro a H
    obtain⟨dP,dQ,aS,dF,dG⟩:=SlR.formV ((hS.own 9 rfl).slr rfl (fun x _=>Th x))
    refine n_q H (Qf Tryz.underlying32 rfl aS) rfl (Xe rfl rfl (W_q (Zfi (i:=aB.1.Pages.length) (j:=2) rfl rfl) rfl (W_q (Jf rfl rfl) rfl (W_q (Zc rfl) rfl ?_))));clear H a;intro a H
    rcases Bool.eq_false_or_eq_true (!decide (aB.1.Pages.length=2)) with aI|aI
    · replace H:=H.know 58 rfl aI
      replace hm:=Zu hm aI
      refine Zci H rfl rfl (by decide) rfl (Qn rfl rfl (by decide) rfl (Qn rfl rfl (by decide) rfl (Qn rfl rfl (by decide) rfl (Qn rfl rfl (by decide) rfl (Qn rfl rfl (by decide) rfl (Qn rfl rfl (by decide) rfl (W_q (Qi rfl rfl) rfl (W_q (Zc rfl) rfl (Qn rfl rfl (by decide) rfl (Qn rfl rfl (by decide) rfl (Qn rfl rfl (by decide) rfl ?_)))))))))));clear H a;intro a H
      refine n_q H (Qi rfl rfl) rfl (W_q (Zc rfl) rfl (Qn rfl rfl (by decide) rfl (Qn rfl rfl (by decide) rfl (Qn rfl rfl (by decide) rfl (Qn rfl rfl (by decide) rfl (W_q (Qi rfl rfl) rfl ?_))))));clear H a;intro a H
      refine Ze (Za ?_)
      obtain rfl:=Option.some.inj hm;replace hm:=aC;try dsimp only at hm
      replace hS:=hS.pick 15 rfl;dsimp only [List.eraseIdx] at hS
      replace hS:=hS.pick 15 rfl;dsimp only [List.eraseIdx] at hS
      replace hS:=hS.pick 15 rfl;dsimp only [List.eraseIdx] at hS
      replace hS:=hS.pick 15 rfl;dsimp only [List.eraseIdx] at hS
      replace hS:=hS.pick 15 rfl;dsimp only [List.eraseIdx] at hS
      replace hS:=hS.tk5
      exact Wh true H ⟨rfl,rfl,trivial⟩ ⟨hm,hS⟩
    replace H:=H.know 58 rfl aI
    replace hm:=Zv hm aI
    refine Wb H rfl rfl (n_q H (Zd rfl Znq) rfl (Xe rfl rfl (W_q (Zf rfl ((hS.blk 2 rfl).ld ag32 rfl)) rfl (Xe rfl rfl ?_))));clear H a;intro a H
    replace hm:=Zi hm;obtain⟨bL,aV,hm⟩:=hm
    obtain⟨cZ,bA⟩:=SlR.adV ((hS.own 9 rfl).slr rfl (fun x _=>Th x)) aS aV
    refine n_q H (Jn (i:=0) Tryz.underlying32 sz82 rfl aS bA rfl (Ho aV)) rfl (Xe rfl rfl (W_q (Xt rfl Ztg) rfl (Xe rfl rfl ?_)));clear H a;intro a H
    replace hm:=Zi hm;obtain⟨cF,bT,hm⟩:=hm
    obtain⟨h0x1100,h1x1100,bN⟩:=Zjn bT
    refine n_q H (Zpm Tryz.underlying80 sz5 rfl rfl h0x1100 h1x1100) rfl (Xe rfl rfl (W_q (Zf rfl (SlR.ldArrV (o:=2) ((hS.own 9 rfl).slr rfl (fun x _=>Th x)) aS bA ag5 aV (Ztx (A:=[Value.int .i64 bL.Rights,Value.bool bL.Dirty]) (f:=(fun b : UInt8=>Value.int .u8 (b.toNat : Int))) bN))) rfl (Xe rfl rfl (W_q (Vo rfl rfl) rfl (W_q (Jf rfl rfl) rfl (W_q (Zc rfl) rfl ?_))))));clear H a;intro a H
    rcases Bool.eq_false_or_eq_true (!decide ((cF.toNat : Int)=98)) with aJ|aJ
    · replace H:=H.know 67 rfl aJ
      replace hm:=Zu hm aJ
      refine Zci H rfl rfl (by decide) rfl (Qn rfl rfl (by decide) rfl (Qn rfl rfl (by decide) rfl (W_q (Qi rfl rfl) rfl (W_q (Zc rfl) rfl (Qn rfl rfl (by decide) rfl (Qn rfl rfl (by decide) rfl (Qn rfl rfl (by decide) rfl (Qn rfl rfl (by decide) rfl (W_q (Qi rfl rfl) rfl ?_)))))))));clear H a;intro a H
      refine Ze (Za ?_)
      obtain rfl:=Option.some.inj hm;replace hm:=aC;try dsimp only at hm
      replace hS:=hS.pick 15 rfl;dsimp only [List.eraseIdx] at hS
      replace hS:=hS.pick 15 rfl;dsimp only [List.eraseIdx] at hS
      replace hS:=hS.pick 15 rfl;dsimp only [List.eraseIdx] at hS
      replace hS:=hS.pick 15 rfl;dsimp only [List.eraseIdx] at hS
      replace hS:=hS.pick 15 rfl;dsimp only [List.eraseIdx] at hS
      replace hS:=hS.tk5
      exact Wh true H ⟨rfl,rfl,trivial⟩ ⟨hm,hS⟩
    replace H:=H.know 67 rfl aJ
    replace hm:=Zv hm aJ
    refine Wb H rfl rfl (n_q H (Zc rfl) rfl (Xe rfl rfl ?_));clear H a;intro a H
    obtain⟨cG,cH,aW,dH,dI⟩:=SlR.formV ((hS.own 0 rfl).slr rfl (fun _ _=>rfl))
    refine n_q H (Qf Tryz.underlying100 rfl aW) rfl (Xe rfl rfl (W_q (Zfi (i:=aD.1.length) (j:=69) rfl rfl) rfl (W_q (Jf rfl rfl) rfl (W_q (Zc rfl) rfl ?_))));clear H a;intro a H
    rcases Bool.eq_false_or_eq_true (!decide (aD.1.length=69)) with aK|aK
    · replace H:=H.know 72 rfl aK
      replace hm:=Zu hm aK
      refine Zci H rfl rfl (by decide) rfl (Qn rfl rfl (by decide) rfl (Qn rfl rfl (by decide) rfl (Qn rfl rfl (by decide) rfl (W_q (Qi rfl rfl) rfl ?_))));clear H a;intro a H
      refine Ze (Za ?_)
      obtain rfl:=Option.some.inj hm;replace hm:=aC;try dsimp only at hm
      replace hS:=hS.pick 15 rfl;dsimp only [List.eraseIdx] at hS
      replace hS:=hS.pick 15 rfl;dsimp only [List.eraseIdx] at hS
      replace hS:=hS.pick 15 rfl;dsimp only [List.eraseIdx] at hS
      replace hS:=hS.pick 15 rfl;dsimp only [List.eraseIdx] at hS
      replace hS:=hS.pick 15 rfl;dsimp only [List.eraseIdx] at hS
      replace hS:=hS.tk5
      exact Wh true H ⟨rfl,rfl,trivial⟩ ⟨hm,hS⟩
    replace H:=H.know 72 rfl aK
    replace hm:=Zv hm aK
    refine Wb H rfl rfl (n_q H (Zc rfl) rfl (Xe rfl rfl ?_));clear H a;intro a H
    replace hm:=Tj hm;obtain⟨aX,hm⟩:=hm
    refine n_q H (Zak Tryz.underlying100 sz5 (show _=some (Value.slice cG aD.1.length cH) by rw [← aW];rfl) rfl aX.1 (by omega)) rfl (Xe rfl rfl (W_q (Zhj Tryz.underlying100 Tryz.underlying5 Tryz.underlying9 rfl (fun w' hw=>((SlR.takeV ((hS.own 0 rfl).slr rfl (fun _ _=>rfl)) aW aX.1 aX.2).ext (Zq.mono _) hw))) rfl (Xe rfl rfl (W_q (Zkq rfl rfl) rfl (W_q (Jf rfl rfl) rfl ?_)))));clear H a;intro a H
    refine Ze (Za ?_)
    obtain rfl:=Option.some.inj hm;replace hm:=aC;try dsimp only at hm
    replace hS:=hS.pick 15 rfl;dsimp only [List.eraseIdx] at hS
    replace hS:=hS.pick 15 rfl;dsimp only [List.eraseIdx] at hS
    replace hS:=hS.pick 15 rfl;dsimp only [List.eraseIdx] at hS
    replace hS:=hS.pick 15 rfl;dsimp only [List.eraseIdx] at hS
    replace hS:=hS.pick 15 rfl;dsimp only [List.eraseIdx] at hS
    replace hS:=hS.tk5
    exact Wh (!decide ((Za6 (aD.1.take (15 : Int).toNat))=⟨#[70,80,76,78,0,1,0,0,0,69,0,0,0,3,1]⟩)) H ⟨rfl,rfl,trivial⟩ ⟨hm,hS⟩
  clear H hS hm a;intro aT a dR H hR
  simp only [ent,List.map_cons,List.map_nil] at H;(try dsimp only at hR);obtain⟨hm,hS⟩:=hR;try dsimp only [Hw] at hm
  refine Zl H rfl (fun aY=>?_) (fun aY=>?_)
  · replace hm:=Zu hm aY
    refine wp_seq (wp_region_lit (n_q H (Zb rfl) rfl ?_));clear H a;intro a H
    refine Ze (Za (wp_ret (Zh ?_)))
    obtain rfl:=Option.some.inj hm
    replace hS:=hS.tk0
    refine Je H (.inr rfl) rfl rfl ?_
    exact⟨rfl,hS.x⟩
  replace hm:=Zv hm aY
  refine wp_skip (Za (wp_seq (wp_region_lit (n_q H (Zd rfl Ur) rfl (W_q (Zf rfl ((hS.blk 0 rfl).ld Zii rfl)) rfl ?_)))));clear H a;intro a H
  obtain⟨dS,dT,aZ,dJ,dK⟩:=SlR.formV ((hS.own 2 rfl).slr rfl (fun _ _=>rfl))
  replace hm:=Zi hm;obtain⟨aU,a9,hm⟩:=hm
  obtain⟨dA,bB⟩:=SlR.adV ((hS.own 2 rfl).slr rfl (fun _ _=>rfl)) aZ a9
  refine n_q H (Jn (i:=1) Tryz.underlying23 Tl rfl aZ bB rfl (Ho a9)) rfl (W_q (Xt rfl Zcc) rfl ?_);clear H a;intro a H
  replace hS:=hS.pk2
  refine Zod (e:=Zx) (j:=0) (x':=(⟨66,aU.Prio,aU.Auto⟩ : GProcPlan)) H rfl rfl sz3 (hS.own 0 rfl) aZ bB a9 rfl (fun _=>rfl) (by decide) rfl ?_
  clear H;intro dU hN bU;clear a;intro a H;replace hS:=hS.setOwn hN bU (.inl rfl);clear hN
  refine Ze (Za (wp_seq (wp_region_lit (n_q H (Zf rfl ((hS.blk 1 rfl).ldAll Zap Ut)) rfl ?_))));clear H a;intro a H
  replace hm:=Zi hm;obtain⟨bH,bV,hm⟩:=hm
  refine Zj H rfl en57 (Ht (A:=A) (hG.ext hS.x) (⟨_,_,_,_,rfl,((hS.own 2 rfl).slr rfl (fun _ _=>rfl)),((hS.own 0 rfl).slr rfl (fun _ _=>rfl)),((hS.own 3 rfl).slr rfl (fun _ _=>rfl)),((hS.own 4 rfl).slr rfl (fun _ _=>rfl))⟩ : Qw _ [.int .i64 aA.Id,.bool aA.Mobile,aM,aN,aO,.int .i64 aA.Events,aP] (⟨aA.Id,aA.Mobile,aA.Pages,(aA.Procs.set 1 (⟨66,aU.Prio,aU.Auto⟩ : GProcPlan)),aA.Ports,aA.Events,aA.Sems⟩ : GPlan)) bV) rfl ?_
  clear H;intro bM cI hv;clear a;intro a H;obtain⟨_,rfl,bW⟩:=hv
  replace hS:=hS.new bW;simp only [List.cons_append,List.nil_append] at hS
  refine n_q H (Zb rfl) rfl ?_;clear H a;intro a H
  refine Ze (Za (wp_seq (wp_region_lit (n_q H (Zc rfl) rfl ?_))));clear H a;intro a H
  refine Zj H rfl en56 (Zte (hG.ext hS.x) (hS.any 0 rfl : IsE A cI bM bH)) rfl ?_
  clear H;intro dV cJ hv;clear a;intro a H;obtain⟨rfl,bX⟩:=hv;replace hS:=hS.ext bX
  refine n_q H (Ky rfl rfl) rfl (W_q (Zc rfl) rfl ?_);clear H a;intro a H
  rcases Bool.eq_false_or_eq_true (decide ((ErrM.code bH)=4)) with aL|aL
  · replace H:=H.know 87 rfl aL
    replace hm:=Zu hm aL
    refine Wb H rfl rfl (n_q H (Zc rfl) rfl (Xe rfl rfl ?_));clear H a;intro a H
    refine Zj H rfl en60 (Zph (hH.ext hS.x) (hS.any 0 rfl : IsE A cJ bM bH)) rfl ?_
    clear H;intro dW dX hv;clear a;intro a H;obtain⟨rfl,bY⟩:=hv;replace hS:=hS.ext bY
    refine Wb H rfl rfl (n_q H (Ky rfl rfl) rfl (W_q (Qi rfl rfl) rfl (W_q (Zb rfl) rfl ?_)));clear H a;intro a H
    refine Ze (Za (wp_ret ?_))
    obtain rfl:=Option.some.inj hm
    replace hS:=hS.tk0
    refine Je H (.inr rfl) rfl rfl ?_
    exact⟨rfl,hS.x⟩
  replace H:=H.know 87 rfl aL
  replace hm:=Zv hm aL
  refine Zci H rfl rfl (by decide) rfl (Qn rfl rfl (by decide) rfl (Qn rfl rfl (by decide) rfl (W_q (Jf rfl rfl) rfl (W_q (Zb rfl) rfl ?_))));clear H a;intro a H
  refine Ze (Za (wp_ret ?_))
  obtain rfl:=Option.some.inj hm
  replace hS:=hS.tk0
  refine Je H (.inr rfl) rfl rfl ?_
  exact⟨rfl,hS.x⟩
theorem Zgv {w : World} {A : Nat → Addr} {cs0 : List Value} {a0 : GPlan} (h0 : Qw w cs0 a0) {r : GPlan} (hm : Zba a0=some r) :
    Calls Tryz.prog 14 [.agg cs0.toArray].toArray w (Ret fun u w'=>∃ h_0 h_1 h_2 h_3,u=.agg #[.int .i64 r.Id,.bool r.Mobile,h_0,h_1,h_2,.int .i64 r.Events,h_3] ∧ St NB w w' [ownR 114 2 h_0 r.Pages.length (r.Pages.flatMap Qc),ownR 116 3 h_1 r.Procs.length (r.Procs.flatMap Zx),ownR 118 4 h_2 r.Ports.length (r.Ports.flatMap Zw),ownR 3 1 h_3 r.Sems.length (r.Sems.flatMap eI)]):=by
  obtain⟨aE,aF,aG,aH,rfl,aA,aB,aC,aD⟩:=h0
  have hS:=St.begin NB w
  unfold Zba at hm
  refine enter Tryz.func14 rfl rfl rfl ?_;intro a H;dsimp only [Qk,Nat.zero_add,Nat.reduceAdd] at H
  refine wp_seq (wp_region_lit (Wt H rfl (cs:=[.int .i64 a0.Id,.bool a0.Mobile,aE,aF,aG,.int .i64 a0.Events,aH]) rfl rfl ?_))
  clear H;intro bE bF hN aM hs;clear a;intro a H
  replace hS:=hS.newBlk hN aM hs;clear hN hs
  refine Qr H Zg9 rfl ?_
  clear H;intro bG bH hN aN hs;clear a;intro a H
  replace hS:=hS.newBlk hN aN hs;clear hN hs
  refine Ze (Za (wp_seq (wp_region_lit (Qd H Tryz.underlying22 Tk Zfl rfl rfl rfl (cs:=[]) rfl rfl ?_))))
  clear H;intro bI bJ hN aO hs;clear a;intro a H
  replace hS:=hS.newBlk hN aO hs;clear hN hs
  replace hS:=hS.blkOwnL (e:=Qc) (k:=2) ([] : List GPagePlan) rfl rfl (by simp [maxLen])
  refine n_q H (Zd rfl Vs) rfl (W_q (Zf rfl ((hS.blk 2 rfl).ld Zgt rfl)) rfl ?_);clear H a;intro a H
  replace hm:=Tj hm;obtain⟨aP,hm⟩:=hm
  refine Zb1 (e:=Qc) H rfl rfl Tryz.underlying22 Tryz.underlying22 (by simp) Zt5 (hS.own 0 rfl) ((aA.ext (Zq.mono _) hS.x).src (fun _ _=>rfl)) Zb9 aP (by simp only [maxLen];omega) rfl ?_
  clear H;intro aI bK hN aQ hb;clear a;intro a H;replace hS:=hS.setOwn hN aQ hb;clear hN hb
  refine n_q H (Zd rfl Vs) rfl ?_;clear H a;intro a H
  replace hS:=hS.pk2
  refine Jz H rfl rfl sz22 (hS.blk 0 rfl) (by simp) (((hS.own 1 rfl).slr rfl (fun _ _=>rfl))).one ?_
  clear H;intro bL hN aR hz;clear a;intro a H;replace hS:=hS.setBlk hN aR;clear hN hz
  try simp only [List.set_cons_succ,List.set_cons_zero] at hS
  refine Ze (Za (wp_seq (wp_region_lit (Qd H Tryz.underlying23 Tl Zex rfl rfl rfl (cs:=[]) rfl rfl ?_))))
  clear H;intro bM bN hN aS hs;clear a;intro a H
  replace hS:=hS.newBlk hN aS hs;clear hN hs
  replace hS:=hS.blkOwnL (e:=Zx) (k:=3) ([] : List GProcPlan) rfl rfl (by simp [maxLen])
  refine n_q H (Zd rfl Ur) rfl (W_q (Zf rfl ((hS.blk 1 rfl).ld Zii rfl)) rfl ?_);clear H a;intro a H
  replace hm:=Tj hm;obtain⟨aT,hm⟩:=hm
  refine Zb1 (e:=Zx) H rfl rfl Tryz.underlying23 Tryz.underlying23 (by simp) Zt6 (hS.own 0 rfl) ((aB.ext (Zq.mono _) hS.x).src (fun _ _=>rfl)) Zca aT (by simp only [maxLen];omega) rfl ?_
  clear H;intro aJ bO hN aU hb;clear a;intro a H;replace hS:=hS.setOwn hN aU hb;clear hN hb
  refine n_q H (Zd rfl Ur) rfl ?_;clear H a;intro a H
  replace hS:=hS.pk1
  refine Jz H rfl rfl sz23 (hS.blk 0 rfl) (by simp) (((hS.own 1 rfl).slr rfl (fun _ _=>rfl))).one ?_
  clear H;intro bP hN aV hz;clear a;intro a H;replace hS:=hS.setBlk hN aV;clear hN hz
  try simp only [List.set_cons_succ,List.set_cons_zero] at hS
  refine Ze (Za (wp_seq (wp_region_lit (Qd H Tryz.underlying24 Us Zfm rfl rfl rfl (cs:=[]) rfl rfl ?_))))
  clear H;intro bQ bR hN aW hs;clear a;intro a H
  replace hS:=hS.newBlk hN aW hs;clear hN hs
  replace hS:=hS.blkOwnL (e:=Zw) (k:=4) ([] : List GPortPlan) rfl rfl (by simp [maxLen])
  refine n_q H (Zd rfl Gp) rfl (W_q (Zf rfl ((hS.blk 1 rfl).ld Zi7 rfl)) rfl ?_);clear H a;intro a H
  replace hm:=Tj hm;obtain⟨aX,hm⟩:=hm
  refine Zb1 (e:=Zw) H rfl rfl Tryz.underlying24 Tryz.underlying24 (by simp) Zt7 (hS.own 0 rfl) ((aC.ext (Zq.mono _) hS.x).src (fun _ _=>rfl)) Zcb aX (by simp only [maxLen];omega) rfl ?_
  clear H;intro aK bS hN aY hb;clear a;intro a H;replace hS:=hS.setOwn hN aY hb;clear hN hb
  refine n_q H (Zd rfl Gp) rfl ?_;clear H a;intro a H
  replace hS:=hS.pk1
  refine Jz H rfl rfl sz24 (hS.blk 0 rfl) (by simp) (((hS.own 1 rfl).slr rfl (fun _ _=>rfl))).one ?_
  clear H;intro bT hN aZ hz;clear a;intro a H;replace hS:=hS.setBlk hN aZ;clear hN hz
  try simp only [List.set_cons_succ,List.set_cons_zero] at hS
  refine Ze (Za (wp_seq (wp_region_lit (Qd H Tryz.underlying25 sz3 ze3 rfl rfl rfl (cs:=[]) rfl rfl ?_))))
  clear H;intro bU bV hN a9 hs;clear a;intro a H
  replace hS:=hS.newBlk hN a9 hs;clear hN hs
  replace hS:=hS.blkOwnL (e:=eI) (k:=1) ([] : List Int) rfl rfl (by simp [maxLen])
  refine n_q H (Zd rfl Gq) rfl (W_q (Zf rfl ((hS.blk 1 rfl).ld Zij rfl)) rfl ?_);clear H a;intro a H
  replace hm:=Tj hm;obtain⟨bA,hm⟩:=hm
  refine Zb1 (e:=eI) H rfl rfl Tryz.underlying25 Tryz.underlying25 (by simp) el3 (hS.own 0 rfl) ((aD.ext (Zq.mono _) hS.x).src (fun _ _=>rfl)) Zkt bA (by simp only [maxLen];omega) rfl ?_
  clear H;intro aL bW hN bB hb;clear a;intro a H;replace hS:=hS.setOwn hN bB hb;clear hN hb
  refine n_q H (Zd rfl Gq) rfl ?_;clear H a;intro a H
  replace hS:=hS.pk1
  refine Jz H rfl rfl sz25 (hS.blk 0 rfl) (by simp) (((hS.own 1 rfl).slr rfl (fun _ _=>rfl))).one ?_
  clear H;intro bX hN bC hz;clear a;intro a H;replace hS:=hS.setBlk hN bC;clear hN hz
  try simp only [List.set_cons_succ,List.set_cons_zero] at hS
  refine Ze (Za (wp_seq (wp_region_lit (n_q H (Zf rfl ((hS.blk 0 rfl).ldAll Zap Ut)) rfl ?_))));clear H a;intro a H
  replace hS:=hS.pk5
  refine Zr H rfl rfl (vs:=[.int .i64 a0.Id,.bool a0.Mobile,aI,aJ,aK,.int .i64 a0.Events,aL]) rfl Ut (hS.blk 0 rfl) rfl (by simp [(((hS.own 5 rfl).slr rfl (fun _ _=>rfl))).one,(((hS.own 4 rfl).slr rfl (fun _ _=>rfl))).one,(((hS.own 3 rfl).slr rfl (fun _ _=>rfl))).one,(((hS.own 2 rfl).slr rfl (fun _ _=>rfl))).one]) ?_
  clear H;intro bY hN bD hz;clear a;intro a H;replace hS:=hS.setBlk hN bD;clear hN hz
  refine Ze (Za (wp_ret ?_))
  obtain rfl:=Option.some.inj hm
  replace hS:=hS.pk2
  replace hS:=hS.pk3
  replace hS:=hS.pk4
  replace hS:=hS.pk5
  replace hS:=hS.tk5
  refine Ti H (.inr rfl) rfl (vs:=[.agg #[.int .i64 a0.Id,.bool a0.Mobile,aI,aJ,aK,.int .i64 a0.Events,aL]]) (Qm rfl ((hS.blk 4 rfl).ldAll Zap Ut) Qv) ?_
  replace hS:=hS.tk4
  exact⟨_,_,_,_,rfl,hS⟩
theorem Zhw {w : World} {A : Nat → Addr} {v0 : Value} {a0 : List UInt8} {v1 : Value} {a1 : List UInt8} (h0 : SlR w 1 (Zq eB) v0 a0) (h1 : SlR w 1 (Zq eB) v1 a1) {r : Bool} (hm : Tr a0 a1=some r) :
    Calls Tryz.prog 173 [v0,v1].toArray w (Ret fun u w'=>u=.bool r ∧ Ext w w'):=by
  have hS:=St.begin NB w
  unfold Tr at hm
  refine enter Tryz.func173 rfl rfl rfl ?_;intro a H;dsimp only [Qk,Nat.zero_add,Nat.reduceAdd] at H
  refine wp_seq (wp_region_lit (n_q H (Zb rfl) rfl ?_));clear H a;intro a H
  refine Ze (Za (wp_seq (wp_region_lit (n_q H (Zc rfl) rfl (W_q (Zhj Tryz.underlying100 Tryz.underlying5 Tryz.underlying9 rfl (fun w' hw=>((h0.ext (Zq.mono _) hS.x).ext (Zq.mono _) hw))) rfl (W_q (Zc rfl) rfl (W_q (Zhj Tryz.underlying100 Tryz.underlying5 Tryz.underlying9 rfl (fun w' hw=>((h1.ext (Zq.mono _) hS.x).ext (Zq.mono _) hw))) rfl (W_q (q_eqlS rfl rfl) rfl (W_q (Zb rfl) rfl ?_)))))))));clear H a;intro a H
  refine Ze (Za (wp_ret ?_))
  obtain rfl:=Option.some.inj hm
  refine Je H (.inr rfl) rfl rfl ?_
  exact⟨rfl,hS.x⟩
theorem Zla {w : World} {A : Nat → Addr} {v0 : Value} {a0 : List UInt8} (hG : EV A w) (h0 : SlR w 1 (Zq eB) v0 a0) {r : List UInt8 × ErrM} (hm : Zab a0=some r) :
    Calls Tryz.prog 99 [v0].toArray w (Ret fun u w'=>∃ h_0 h_1,u=.tuple #[h_0,h_1] ∧ St NB w w' [ownR 5 1 h_0 r.1.length (r.1.flatMap eB),erQ A h_1 r.2]):=by
  have hS:=St.begin NB w
  unfold Zab at hm
  refine enter Tryz.func99 rfl rfl rfl ?_;intro a H;dsimp only [Qk,Nat.zero_add,Nat.reduceAdd] at H
  refine wp_seq (wp_region_lit (n_q H (Zb rfl) rfl (W_q (Zb rfl) rfl ?_)));clear H a;intro a H
  refine Ze (Za (wp_seq (wp_seq (wp_region_lit (n_q H (Zc rfl) rfl ?_)))));clear H a;intro a H
  obtain⟨aH,aI,aA,a9,bA⟩:=SlR.formV (h0.ext (Zq.mono _) hS.x)
  refine n_q H (Qf Tryz.underlying100 rfl aA) rfl (W_q (Xz (i:=a0.length) (j:=4) rfl rfl) rfl ?_);clear H a;intro a H
  refine Ze (Za (Zl H rfl (fun aC=>?_) (fun aC=>?_)))
  · replace hm:=Zu hm aC
    have aZ : a0.length < 4:=of_decide_eq_true aC
    refine wp_seq (Ww (by kernel_rfl) (by kernel_rfl) ?_)
    refine Xb H (Zf rfl ((hG.ext hS.x).ld Vb (by decide) Hv)) rfl ?_;clear H a;intro a H
    refine Xb H (Zb rfl) rfl ?_;clear H a;intro a H
    refine Xb H (Zb rfl) rfl ?_;clear H a;intro a H
    refine To ?_;intro bE aN
    replace hS:=hS.ext aN
    refine Za (wp_ret (Zh ?_))
    obtain rfl:=Option.some.inj hm
    replace hS:=hS.nilOwn 5 1
    replace hS:=hS.dVar (A:=A) (g:=Vb) (by decide)
    replace hS:=hS.pk1
    refine Zda H (.inr rfl) rfl rfl rfl ?_
    exact⟨_,_,rfl,hS⟩
  replace hm:=Zv hm aC
  refine wp_skip (Za (wp_seq (wp_region_lit (n_q H (Zc rfl) rfl (W_q (Zc rfl) rfl (W_q (Qf Tryz.underlying100 rfl aA) rfl (W_q (Zcj rfl rfl) rfl ?_)))))));clear H a;intro a H
  replace hm:=Tj hm;obtain⟨aB,hm⟩:=hm
  refine n_q H (Zak Tryz.underlying100 sz5 (show _=some (Value.slice aH a0.length aI) by rw [← aA];rfl) rfl aB.1 (by omega)) rfl (W_q (Zb rfl) rfl ?_);clear H a;intro a H
  refine Ze (Za (wp_seq (wp_seq (Gi [] 9 (by kernel_rfl) ?_))))
  obtain⟨aM,aF⟩ : ∃ x,x=w.drew:=⟨_,rfl⟩;rw [← aF];have aO : Ext w aM:=by rw [aF];exact Ext.drew' _
  clear aF
  replace hS:=hS.ext aO
  have bB:=hS
  have hW:=Nat.le_refl aM.heap.size
  refine Zg 0 H rfl (Zc rfl) rfl (by kernel_rfl) (by kernel_rfl) (by kernel_rfl) (by kernel_rfl) (fun _ _ _ h=>h) ?_;clear H a;intro a H
  refine Zg 3 H rfl (Zc rfl) rfl (by kernel_rfl) (by kernel_rfl) (by kernel_rfl) (by kernel_rfl) (fun _ _ _ h=>h) ?_;clear H a;intro a H
  refine Zg 4 H rfl (Zc rfl) rfl (by kernel_rfl) (by kernel_rfl) (by kernel_rfl) (by kernel_rfl) (fun _ _ _ h=>h) ?_;clear H a;intro a H
  obtain⟨bF,bG,aP,bC,bD⟩:=SlR.formV (SlR.takeV (h0.ext (Zq.mono _) hS.x) aA aB.1 aB.2)
  refine Zg 5 H rfl (Qf Tryz.underlying100 rfl aP) rfl (by kernel_rfl) (by kernel_rfl) (by kernel_rfl) (by kernel_rfl) (fun _ _ _ h=>h) ?_;clear H a;intro a H
  replace hm:=Tj hm;obtain⟨aD,hm⟩:=hm
  obtain⟨aX,aY,aQ,aE⟩:=Zhl 1 (Zq eB) aH a0.length aI a0 (lo:=(((a0.take (IntKind.i64.wrap (((a0.length : Nat) : Int) - 4)).toNat).length : Nat) : Int)) (hi:=((a0.length : Nat) : Int)) aD.1 aD.2.1 aD.2.2
  rw [← aA] at aE
  refine Zg 6 H rfl (Qo (Zdb Tryz.underlying100 sz5 (show _=some (Value.slice aH a0.length aI) by rw [← aA];rfl) rfl aD.1 (by omega)) (show _=Value.slice aX (((a0.length : Nat) : Int).toNat - (((a0.take (IntKind.i64.wrap (((a0.length : Nat) : Int) - 4)).toNat).length : Nat) : Int).toNat) aY by rw [← aQ];simp)) rfl (by kernel_rfl) (by kernel_rfl) (by kernel_rfl) (by kernel_rfl) (fun _ _ _ h=>h) ?_;clear H a;intro a H
  replace hm:=Zi hm;obtain⟨bH,aR,hm⟩:=hm
  refine Xu 1 (by kernel_rfl) ?_
  refine Xy 1 H rfl rfl Zt2 (Ze1 (A:=A) (SlR.takeV (h0.ext (Zq.mono _) hS.x) aA aB.1 aB.2) aR) rfl (fun v w hv=>.inl (ChgF.of_ext (by obtain⟨_,hE0⟩:=hv;exact hE0))) ?_
  clear H;intro bI bJ hv;clear a;intro a H;obtain⟨rfl,aJ⟩:=hv
  replace hS:=hS.ext aJ
  replace hW:=Nat.le_trans hW aJ.size
  replace hm:=Zi hm;obtain⟨bK,aS,hm⟩:=hm
  refine Xu 2 (by kernel_rfl) ?_
  refine Xy 2 H rfl rfl en172 (Zgu (A:=A) aS) rfl (fun v w hv=>.inl (ChgF.of_ext (by obtain⟨_,_,hE0⟩:=hv;exact hE0.x))) ?_
  clear H;intro bL bM hv;clear a;intro a H;obtain⟨_,rfl,aK⟩:=hv
  replace hS:=hS.new aK;simp only [List.cons_append,List.nil_append] at hS
  replace hW:=Nat.le_trans hW aK.x.size
  replace hm:=Zi hm;obtain⟨bN,aT,hm⟩:=hm
  refine Xu 7 (by kernel_rfl) ?_
  refine Xy 7 H rfl rfl en173 (Zhw (A:=A) ((hS.own 0 rfl).slr rfl (fun _ _=>rfl)) (aE _ (h0.ext (Zq.mono _) hS.x)) aT) rfl (fun v w hv=>.inl (ChgF.of_ext (by obtain⟨_,hE0⟩:=hv;exact hE0))) ?_
  clear H;intro bO bP hv;clear a;intro a H;obtain⟨rfl,aL⟩:=hv
  replace hS:=hS.ext aL
  replace hW:=Nat.le_trans hW aL.size
  refine Zg 8 H rfl (Zf5 rfl) rfl (by kernel_rfl) (by kernel_rfl) (by kernel_rfl) (by kernel_rfl) (fun _ _ _ h=>h) ?_;clear H a;intro a H
  refine Qx (by kernel_rfl) ?_
  refine Za (Zl H rfl (fun aG=>?_) (fun aG=>?_))
  · replace hm:=Zu hm aG
    refine wp_seq (Ww (by kernel_rfl) (by kernel_rfl) ?_)
    refine Xb H (Zf rfl ((hG.ext hS.x).ld gSum (by decide) Hv)) rfl ?_;clear H a;intro a H
    refine Xb H (Zb rfl) rfl ?_;clear H a;intro a H
    refine Xb H (Zb rfl) rfl ?_;clear H a;intro a H
    refine To ?_;intro bQ aU
    replace hS:=hS.ext aU
    refine Za (wp_ret (Zh ?_))
    obtain rfl:=Option.some.inj hm
    replace hS:=hS.nilOwn 5 1
    replace hS:=hS.dVar (A:=A) (g:=gSum) (by decide)
    replace hS:=hS.pk1
    replace hS:=hS.tk2
    refine Zda H (.inr rfl) rfl rfl rfl ?_
    exact⟨_,_,rfl,hS⟩
  replace hm:=Zv hm aG
  refine wp_skip (Za (wp_seq (wp_region_lit (n_q H (Zc rfl) rfl ?_))));clear H a;intro a H
  replace hm:=Zi hm;obtain⟨bR,aV,hm⟩:=hm
  refine Zj H rfl en171 (Zdy (A:=A) (SlR.takeV (h0.ext (Zq.mono _) hS.x) aA aB.1 aB.2) aV) rfl ?_
  clear H;intro bS bT hv;clear a;intro a H;obtain⟨_,rfl,aW⟩:=hv
  replace hS:=hS.new aW;simp only [List.cons_append,List.nil_append] at hS
  refine n_q H (Zb rfl) rfl (W_q (Zb rfl) rfl ?_);clear H a;intro a H
  refine Ze (Za (wp_ret ?_))
  obtain rfl:=Option.some.inj hm
  replace hS:=hS.dNil (A:=A)
  replace hS:=hS.pk1
  replace hS:=hS.tk2
  refine Zda H (.inr rfl) rfl rfl rfl ?_
  exact⟨_,_,rfl,hS⟩
theorem Zjy {w : World} {A : Nat → Addr} {v0 : Value} {a0 : List UInt8} (h0 : SlR w 1 (Zq eB) v0 a0) {r : GWireCursor} (hm : Zbj a0=some r) :
    Calls Tryz.prog 100 [v0].toArray w (Ret fun u w'=>∃ (h_0 : Nat) (h_1 : Value),u=.pointer (some ⟨h_0,0,none⟩) ∧ St NB w w' [blkR h_0 [h_1,.int .i64 r.at_,.int .i64 r.bound_] 248,ownR 5 1 h_1 r.b_.length (r.b_.flatMap eB)]):=by
  have hS:=St.begin NB w
  unfold Zbj at hm
  refine enter Tryz.func100 rfl rfl rfl ?_;intro a H;dsimp only [Qk,Nat.zero_add,Nat.reduceAdd] at H
  refine wp_seq (wp_region_lit (n_q H (Zb rfl) rfl ?_));clear H a;intro a H
  refine Ze (Za (wp_seq (wp_region_lit (n_q H (Zc rfl) rfl ?_))));clear H a;intro a H
  replace hm:=Zi hm;obtain⟨aH,aB,hm⟩:=hm
  refine Zj H rfl Zt3 (Gr (A:=A) (h0.ext (Zq.mono _) hS.x) aB) rfl ?_
  clear H;intro aA aI hv;clear a;intro a H;obtain⟨_,rfl,aC⟩:=hv
  replace hS:=hS.new aC;simp only [List.cons_append,List.nil_append] at hS
  refine n_q H (Zc rfl) rfl ?_;clear H a;intro a H
  obtain⟨aJ,aK,aD,aF,aG⟩:=SlR.formV (h0.ext (Zq.mono _) hS.x)
  refine n_q H (Qf Tryz.underlying100 rfl aD) rfl (W_q (Zz (cs:=[aA,.int .i64 0,.int .i64 ((a0.length : Nat) : Int)]) ze248 bd248 pl248 rfl ((Qh (((hS.own 0 rfl).slr rfl (fun _ _=>rfl))).one rfl (by simp)).trans ((Qh rfl rfl (by simp)).trans rfl))) rfl ?_);clear H a;intro a H
  refine Wt H rfl (cs:=[aA,.int .i64 0,.int .i64 ((a0.length : Nat) : Int)]) rfl rfl ?_
  clear H;intro aL aM hN aE hs;clear a;intro a H
  replace hS:=hS.newBlk hN aE hs;clear hN hs
  refine n_q H (Zb rfl) rfl ?_;clear H a;intro a H
  refine Ze (Za (wp_ret ?_))
  obtain rfl:=Option.some.inj hm
  refine Je H (.inr rfl) rfl rfl ?_
  exact⟨_,_,rfl,hS⟩
theorem Xs {w : World} {A : Nat → Addr} {fp : Nat → Prop} {b0 : Nat} {v0_0 : Value} {a0 : GWireCursor} (hP : Sep w fp [blkR b0 [v0_0,.int .i64 a0.at_,.int .i64 a0.bound_] 248]) (ro0_b : ∀ w',ChgP fp w w' → SlR w' 1 (Zq eB) v0_0 a0.b_) {r : Int × GWireCursor} (hm : Qs a0=some r) :
    Calls Tryz.prog 104 [.pointer (some ⟨b0,0,none⟩)].toArray w (Ret fun u w'=>u=.int .i64 r.1 ∧ St fp w w' [blkR b0 [v0_0,.int .i64 r.2.at_,.int .i64 r.2.bound_] 248]):=by
  have hS:=St.init hP
  unfold Qs at hm
  refine enter Tryz.func104 rfl rfl rfl ?_;intro a H;dsimp only [Qk,Nat.zero_add,Nat.reduceAdd] at H
  refine wp_seq (wp_region_lit (n_q H (Zb rfl) rfl ?_));clear H a;intro a H
  refine Ze (Za (wp_seq (Ww (by kernel_rfl) (by kernel_rfl) ?_)))
  refine Xb H (Zc rfl) rfl ?_;clear H a;intro a H
  refine Xb H (Zp rfl) rfl ?_;clear H a;intro a H
  refine Xb H (Zd rfl Zp2) rfl ?_;clear H a;intro a H
  refine Xb H (Zf rfl ((hS.blk 0 rfl).ld ag3 rfl)) rfl ?_;clear H a;intro a H
  refine Xb H (Zc rfl) rfl ?_;clear H a;intro a H
  refine Xb H (Zp rfl) rfl ?_;clear H a;intro a H
  refine Xb H (Zd rfl Uk) rfl ?_;clear H a;intro a H
  refine Xb H (Zf rfl ((hS.blk 0 rfl).ld ag3 rfl)) rfl ?_;clear H a;intro a H
  refine Xb H (Zcj rfl rfl) rfl ?_;clear H a;intro a H
  refine Xb H (Zb rfl) rfl ?_;clear H a;intro a H
  refine To ?_;intro aB aA
  replace hS:=hS.ext aA
  refine Za (wp_ret ?_)
  obtain rfl:=Option.some.inj hm
  refine Je H (.inr rfl) rfl rfl ?_
  exact⟨rfl,hS⟩
theorem Tb {w : World} {A : Nat → Addr} {fp : Nat → Prop} {b0 : Nat} {v0_0 : Value} {a0 : GWireCursor} {a1 : Int} (hG : ∀ w',ChgP fp w w' → EV A w') (hP : Sep w fp [blkR b0 [v0_0,.int .i64 a0.at_,.int .i64 a0.bound_] 248]) (ro0_b : ∀ w',ChgP fp w w' → SlR w' 1 (Zq eB) v0_0 a0.b_) {r : List UInt8 × ErrM × GWireCursor} (hm : Xf a0 a1=some r) :
    Calls Tryz.prog 101 [.pointer (some ⟨b0,0,none⟩),.int .i64 a1].toArray w (Ret fun u w'=>∃ h_0 h_1,u=.tuple #[h_0,h_1] ∧ St fp w w' [blkR b0 [v0_0,.int .i64 r.2.2.at_,.int .i64 r.2.2.bound_] 248,ownR 5 1 h_0 r.1.length (r.1.flatMap eB),erQ A h_1 r.2.1]):=by
  have hS:=St.init hP
  unfold Xf at hm
  refine enter Tryz.func101 rfl rfl rfl ?_;intro a H;dsimp only [Qk,Nat.zero_add,Nat.reduceAdd] at H
  refine wp_seq (wp_region_lit (n_q H (Zb rfl) rfl (W_q (Zb rfl) rfl ?_)));clear H a;intro a H
  refine Ze (Za (wp_seq (wp_seq (wp_region_lit (n_q H (Zc rfl) rfl (W_q (Un rfl rfl) rfl ?_))))));clear H a;intro a H
  refine Ze (Za (Zl H rfl (fun aC=>?_) (fun aC=>?_)))
  · replace hm:=Zu hm aC
    refine wp_seq (Ww (by kernel_rfl) (by kernel_rfl) ?_)
    refine Xb H (Zf rfl ((hG _ hS.chg).ld gArg (by decide) Hv)) rfl ?_;clear H a;intro a H
    refine Xb H (Zb rfl) rfl ?_;clear H a;intro a H
    refine Xb H (Zb rfl) rfl ?_;clear H a;intro a H
    refine To ?_;intro bG aU
    replace hS:=hS.ext aU
    refine Za (wp_ret (Zh ?_))
    obtain rfl:=Option.some.inj hm
    replace hS:=hS.nilOwn 5 1
    replace hS:=hS.dVar (A:=A) (g:=gArg) (by decide)
    replace hS:=hS.pk1
    replace hS:=hS.pk2
    refine Zda H (.inr rfl) rfl rfl rfl ?_
    exact⟨_,_,rfl,hS⟩
  replace hm:=Zv hm aC
  refine wp_skip (Za (wp_seq (wp_seq (wp_region_lit (n_q H (Zc rfl) rfl ?_)))));clear H a;intro a H
  obtain⟨bD,aI,aJ,aV,aK⟩:=hS.frame (rs1:=[blkR b0 [v0_0,.int .i64 a0.at_,.int .i64 a0.bound_] 248])
  replace hm:=Zi hm;obtain⟨aQ,aW,hm⟩:=hm
  refine Zj H rfl Zk9 (Xs (A:=A) aI (a0:=(⟨a0.b_,a0.at_,a0.bound_⟩ : GWireCursor)) (fun w' hw=>ro0_b _ (aJ _ hw)) aW) rfl ?_
  clear H;intro bH aH hv;clear a;intro a H;obtain⟨rfl,aX⟩:=hv
  replace hS:=aK _ _ aX;simp only [List.cons_append,List.nil_append] at hS;clear aI aJ aV aK
  refine n_q H (Zc rfl) rfl (W_q (Un rfl rfl) rfl ?_);clear H a;intro a H
  refine Ze (Za (Zl H rfl (fun aD=>?_) (fun aD=>?_)))
  · replace hm:=Zu hm aD
    refine wp_seq (Gi [] 8 (by kernel_rfl) ?_)
    obtain⟨aL,aE⟩ : ∃ x,x=aH.drew:=⟨_,rfl⟩;rw [← aE];have aY : Ext aH aL:=by rw [aE];exact Ext.drew' _
    clear aE
    replace hS:=hS.ext aY
    have aM:=hS
    have hW:=Nat.le_refl aL.heap.size
    refine Zg 0 H rfl (Zc rfl) rfl (by kernel_rfl) (by kernel_rfl) (by kernel_rfl) (by kernel_rfl) (fun _ _ _ h=>h) ?_;clear H a;intro a H
    refine Zg 1 H rfl (Zp rfl) rfl (by kernel_rfl) (by kernel_rfl) (by kernel_rfl) (by kernel_rfl) (fun _ _ _ h=>h) ?_;clear H a;intro a H
    refine Zg 2 H rfl (Zd rfl Uk) rfl (by kernel_rfl) (by kernel_rfl) (by kernel_rfl) (by kernel_rfl) (fun _ _ _ h=>h) ?_;clear H a;intro a H
    refine Xo 3 H rfl (Zf rfl (LdC.old ((aM.blk 0 rfl).ld ag3 rfl) Ext.rfl' (Nat.le_refl _) (by simp))) rfl (by kernel_rfl) (by kernel_rfl) (by kernel_rfl) (by kernel_rfl) (fun _ _ _ h=>h) ?_;clear H a;intro a H
    refine Xo 4 H rfl (Zf rfl (LdC.old ((hG _ aM.chg).ld Vb (by decide) Hv) Ext.rfl' (Nat.le_refl _) (by simp))) rfl (by kernel_rfl) (by kernel_rfl) (by kernel_rfl) (by kernel_rfl) (fun _ _ _ h=>h) ?_;clear H a;intro a H
    replace hm:=Zi hm;obtain⟨bI,aZ,hm⟩:=hm
    refine Xu 5 (by kernel_rfl) ?_
    refine Xy 5 H rfl rfl Zk3 (Gs (A:=A) (Xw.var (by decide) : IsE A aL _ (.v Vb)) aZ) rfl (fun v w hv=>.inl (ChgF.of_ext (by obtain⟨_,_,hE0⟩:=hv;exact hE0.x))) ?_
    clear H;intro bJ bK hv;clear a;intro a H;obtain⟨_,rfl,aN⟩:=hv
    replace hS:=hS.new aN;simp only [List.cons_append,List.nil_append] at hS
    replace hW:=Nat.le_trans hW aN.x.size
    refine Zg 6 H rfl (Zb rfl) rfl (by kernel_rfl) (by kernel_rfl) (by kernel_rfl) (by kernel_rfl) (fun _ _ _ h=>h) ?_;clear H a;intro a H
    refine Zg 7 H rfl (Zb rfl) rfl (by kernel_rfl) (by kernel_rfl) (by kernel_rfl) (by kernel_rfl) (fun _ _ _ h=>h) ?_;clear H a;intro a H
    refine Qx (by kernel_rfl) ?_
    refine Za (wp_ret (Zh ?_))
    obtain rfl:=Option.some.inj hm
    replace hS:=hS.nilOwn 5 1
    replace hS:=hS.pk1
    replace hS:=hS.pk1
    replace hS:=hS.pk2
    refine Zda H (.inr rfl) rfl rfl rfl ?_
    exact⟨_,_,rfl,hS⟩
  replace hm:=Zv hm aD
  refine wp_skip (Za (wp_seq (Gi [] 17 (by kernel_rfl) ?_)))
  obtain⟨aR,aF⟩ : ∃ x,x=aH.drew:=⟨_,rfl⟩;rw [← aF];have a9 : Ext aH aR:=by rw [aF];exact Ext.drew' _
  clear aF
  replace hS:=hS.ext a9
  have aG:=hS
  have hW:=Nat.le_refl aR.heap.size
  refine Zg 0 H rfl (Zc rfl) rfl (by kernel_rfl) (by kernel_rfl) (by kernel_rfl) (by kernel_rfl) (fun _ _ _ h=>h) ?_;clear H a;intro a H
  refine Zg 1 H rfl (Zp rfl) rfl (by kernel_rfl) (by kernel_rfl) (by kernel_rfl) (by kernel_rfl) (fun _ _ _ h=>h) ?_;clear H a;intro a H
  refine Zg 2 H rfl (Zd rfl Zmj) rfl (by kernel_rfl) (by kernel_rfl) (by kernel_rfl) (by kernel_rfl) (fun _ _ _ h=>h) ?_;clear H a;intro a H
  refine Xo 3 H rfl (Zf rfl (LdC.old ((aG.blk 0 rfl).ld Zdx rfl) Ext.rfl' (Nat.le_refl _) (by simp))) rfl (by kernel_rfl) (by kernel_rfl) (by kernel_rfl) (by kernel_rfl) (fun _ _ _ h=>h) ?_;clear H a;intro a H
  refine Zg 4 H rfl (Zc rfl) rfl (by kernel_rfl) (by kernel_rfl) (by kernel_rfl) (by kernel_rfl) (fun _ _ _ h=>h) ?_;clear H a;intro a H
  refine Zg 5 H rfl (Zp rfl) rfl (by kernel_rfl) (by kernel_rfl) (by kernel_rfl) (by kernel_rfl) (fun _ _ _ h=>h) ?_;clear H a;intro a H
  refine Zg 6 H rfl (Zd rfl Uk) rfl (by kernel_rfl) (by kernel_rfl) (by kernel_rfl) (by kernel_rfl) (fun _ _ _ h=>h) ?_;clear H a;intro a H
  refine Xo 7 H rfl (Zf rfl (LdC.old ((aG.blk 0 rfl).ld ag3 rfl) Ext.rfl' (Nat.le_refl _) (by simp))) rfl (by kernel_rfl) (by kernel_rfl) (by kernel_rfl) (by kernel_rfl) (fun _ _ _ h=>h) ?_;clear H a;intro a H
  refine Zg 8 H rfl (Zc rfl) rfl (by kernel_rfl) (by kernel_rfl) (by kernel_rfl) (by kernel_rfl) (fun _ _ _ h=>h) ?_;clear H a;intro a H
  refine Zg 9 H rfl (Zp rfl) rfl (by kernel_rfl) (by kernel_rfl) (by kernel_rfl) (by kernel_rfl) (fun _ _ _ h=>h) ?_;clear H a;intro a H
  refine Zg 10 H rfl (Zd rfl Uk) rfl (by kernel_rfl) (by kernel_rfl) (by kernel_rfl) (by kernel_rfl) (fun _ _ _ h=>h) ?_;clear H a;intro a H
  refine Xo 11 H rfl (Zf rfl (LdC.old ((aG.blk 0 rfl).ld ag3 rfl) Ext.rfl' (Nat.le_refl _) (by simp))) rfl (by kernel_rfl) (by kernel_rfl) (by kernel_rfl) (by kernel_rfl) (fun _ _ _ h=>h) ?_;clear H a;intro a H
  refine Zg 12 H rfl (Zc rfl) rfl (by kernel_rfl) (by kernel_rfl) (by kernel_rfl) (by kernel_rfl) (fun _ _ _ h=>h) ?_;clear H a;intro a H
  refine Zg 13 H rfl (Xv rfl rfl) rfl (by kernel_rfl) (by kernel_rfl) (by kernel_rfl) (by kernel_rfl) (fun _ _ _ h=>h) ?_;clear H a;intro a H
  obtain⟨aS,aT,aO,bE,bF⟩:=SlR.formV (ro0_b _ hS.chg)
  replace hm:=Tj hm;obtain⟨aA,hm⟩:=hm
  obtain⟨bL,bM,bA,aB⟩:=Zhl 1 (Zq eB) aS a0.b_.length aT a0.b_ (lo:=aQ.2.at_) (hi:=(IntKind.i64.wrap (aQ.2.at_ + a1))) aA.1 aA.2.1 aA.2.2
  rw [← aO] at aB
  refine Zg 14 H rfl (Qo (Zmb Tryz.underlying100 sz5 (show _=some (Value.slice aS a0.b_.length aT) by rw [← aO];rfl) rfl rfl aA.1 aA.2.1 (by omega)) bA) rfl (by kernel_rfl) (by kernel_rfl) (by kernel_rfl) (by kernel_rfl) (fun _ _ _ h=>h) ?_;clear H a;intro a H
  replace hm:=Zi hm;obtain⟨bN,bB,hm⟩:=hm
  refine Xu 15 (by kernel_rfl) ?_
  refine Xy 15 H rfl rfl Zt3 (Gr (A:=A) (aB _ (ro0_b _ hS.chg)) bB) rfl (fun v w hv=>.inl (ChgF.of_ext (by obtain⟨_,_,hE0⟩:=hv;exact hE0.x))) ?_
  clear H;intro bO bP hv;clear a;intro a H;obtain⟨_,rfl,aP⟩:=hv
  replace hS:=hS.new aP;simp only [List.cons_append,List.nil_append] at hS
  replace hW:=Nat.le_trans hW aP.x.size
  refine Zg 16 H rfl (Zb rfl) rfl (by kernel_rfl) (by kernel_rfl) (by kernel_rfl) (by kernel_rfl) (fun _ _ _ h=>h) ?_;clear H a;intro a H
  refine Qx (by kernel_rfl) ?_
  refine Za (wp_seq (wp_region_lit (n_q H (Zc rfl) rfl (W_q (Zp rfl) rfl (W_q (Zd rfl Uk) rfl (W_q (Zf rfl ((hS.blk 1 rfl).ld ag3 rfl)) rfl (W_q (Zc rfl) rfl (W_q (Xv rfl rfl) rfl (W_q (Zp rfl) rfl (W_q (Zd rfl Uk) rfl ?_))))))))));clear H a;intro a H
  replace hS:=hS.pk1
  refine Jz H rfl rfl sz3 (hS.blk 0 rfl) (by simp) rfl ?_
  clear H;intro bQ hN bC hz;clear a;intro a H;replace hS:=hS.setBlk hN bC;clear hN hz
  try simp only [List.set_cons_succ,List.set_cons_zero] at hS
  refine Ze (Za (wp_seq (wp_region_lit (n_q H (Zc rfl) rfl (W_q (Zb rfl) rfl (W_q (Zb rfl) rfl ?_))))));clear H a;intro a H
  refine Ze (Za (wp_ret ?_))
  obtain rfl:=Option.some.inj hm
  replace hS:=hS.dNil (A:=A)
  replace hS:=hS.pk2
  replace hS:=hS.pk2
  refine Zda H (.inr rfl) rfl rfl rfl ?_
  exact⟨_,_,rfl,hS⟩
theorem Hl {w : World} {A : Nat → Addr} {fp : Nat → Prop} {b0 : Nat} {v0_0 : Value} {a0 : GWireCursor} {a1 : Int} {a2 : Int} (hP : Sep w fp [blkR b0 [v0_0,.int .i64 a0.at_,.int .i64 a0.bound_] 248]) (ro0_b : ∀ w',ChgP fp w w' → SlR w' 1 (Zq eB) v0_0 a0.b_) {r : Int × GWireCursor} (hm : Xj a0 a1 a2=some r) :
    Calls Tryz.prog 238 [.pointer (some ⟨b0,0,none⟩),.int .i64 a1,.int .i64 a2].toArray w (Ret fun u w'=>u=.int .i64 r.1 ∧ St fp w w' [blkR b0 [v0_0,.int .i64 r.2.at_,.int .i64 r.2.bound_] 248]):=by
  have hS:=St.init hP
  unfold Xj at hm
  refine enter Tryz.func238 rfl rfl rfl ?_;intro a H;dsimp only [Qk,Nat.zero_add,Nat.reduceAdd] at H
  refine wp_seq (wp_region_lit (n_q H (Zb rfl) rfl ?_));clear H a;intro a H
  refine Ze (Za (wp_seq (wp_region_lit (n_q H (Zb rfl) rfl ?_))));clear H a;intro a H
  refine Ze (Za (wp_seq (wp_seq (Ww (by kernel_rfl) (by kernel_rfl) ?_))))
  refine Xb H (Zc rfl) rfl ?_;clear H a;intro a H
  refine Xb H (Zp rfl) rfl ?_;clear H a;intro a H
  refine Xb H (Zd rfl Zmj) rfl ?_;clear H a;intro a H
  refine Xb H (Zf rfl ((hS.blk 0 rfl).ld Zdx rfl)) rfl ?_;clear H a;intro a H
  refine Xb H (Zc rfl) rfl ?_;clear H a;intro a H
  refine Xb H (Zp rfl) rfl ?_;clear H a;intro a H
  refine Xb H (Zd rfl Uk) rfl ?_;clear H a;intro a H
  refine Xb H (Zf rfl ((hS.blk 0 rfl).ld ag3 rfl)) rfl ?_;clear H a;intro a H
  refine Xb H (Zc rfl) rfl ?_;clear H a;intro a H
  refine Xb H (Xv rfl rfl) rfl ?_;clear H a;intro a H
  refine Xb H (Zc rfl) rfl ?_;clear H a;intro a H
  refine Xb H (Zp rfl) rfl ?_;clear H a;intro a H
  refine Xb H (Zd rfl Uk) rfl ?_;clear H a;intro a H
  refine Xb H (Zf rfl ((hS.blk 0 rfl).ld ag3 rfl)) rfl ?_;clear H a;intro a H
  refine Xb H (Zc rfl) rfl ?_;clear H a;intro a H
  refine Xb H (Xv rfl rfl) rfl ?_;clear H a;intro a H
  refine Xb H (Zc rfl) rfl ?_;clear H a;intro a H
  refine Xb H (Xv rfl rfl) rfl ?_;clear H a;intro a H
  obtain⟨aK,aL,aI,aX,aY⟩:=SlR.formV (ro0_b _ hS.chg)
  replace hm:=Tj hm;obtain⟨aC,hm⟩:=hm
  obtain⟨aQ,aR,aN,aB⟩:=Zhl 1 (Zq eB) aK a0.b_.length aL a0.b_ (lo:=(IntKind.i64.wrap (a0.at_ + a1))) (hi:=(IntKind.i64.wrap ((IntKind.i64.wrap (a0.at_ + a1)) + a2))) aC.1 aC.2.1 aC.2.2
  rw [← aI] at aB
  refine Xb H (Qo (Zmb Tryz.underlying100 sz5 (show _=some (Value.slice aK a0.b_.length aL) by rw [← aI];rfl) rfl rfl aC.1 aC.2.1 (by omega)) aN) rfl ?_;clear H a;intro a H
  obtain⟨bA,bB,aE,aZ,a9⟩:=SlR.formV (aB _ (ro0_b _ hS.chg))
  refine Xb H (Qf Tryz.underlying100 rfl aE) rfl ?_;clear H a;intro a H
  refine Xb H (Zc rfl) rfl ?_;clear H a;intro a H
  refine To ?_;intro bC aO
  replace hS:=hS.ext aO
  refine Za (wp_block ?_)
  replace hm:=Zi hm;obtain⟨aM,hm,aP⟩:=hm;replace hm:=Qg hm;obtain⟨aS,hm⟩:=hm
  refine Jd (σ:=Nat × Int × Nat) (fun (m,aD,aA)=>[(0,.pointer (some ⟨b0,0,none⟩)),(7,.int .i64 aD),(28,.slice aQ ((IntKind.i64.wrap ((IntKind.i64.wrap (a0.at_ + a1)) + a2)).toNat - (IntKind.i64.wrap (a0.at_ + a1)).toNat) aR),(29,.int .i64 ((((a0.b_.drop (IntKind.i64.wrap (a0.at_ + a1)).toNat).take ((IntKind.i64.wrap ((IntKind.i64.wrap (a0.at_ + a1)) + a2)).toNat - (IntKind.i64.wrap (a0.at_ + a1)).toNat)).length : Nat) : Int)),(30,.int .i64 ((aA : Nat) : Int))]) (fun (m,aD,aA) wl=>Js (Xk a0 a1 a2) m (aD,aA)=some aM ∧ St fp w wl [blkR b0 [v0_0,.int .i64 a0.at_,.int .i64 a0.bound_] 248]) (fun (m,aD,aA)=>m) (aS,0,0) H ⟨rfl,rfl,rfl,rfl,rfl,trivial⟩ ⟨hm,hS⟩ ?_
  clear H hS hm a;intro xx a bD H hR;obtain⟨m,aD,aA⟩:=xx;simp only [ent,List.map_cons,List.map_nil] at H;(try dsimp only at hR);obtain⟨hm,hS⟩:=hR
  replace hm:=Qa hm;obtain⟨aT,bE,rfl,hm,aJ⟩:=hm;try dsimp only [Xk] at hm
  refine wp_seq (wp_region_lit (n_q H (Xz (i:=aA) (j:=(((a0.b_.drop (IntKind.i64.wrap (a0.at_ + a1)).toNat).take ((IntKind.i64.wrap ((IntKind.i64.wrap (a0.at_ + a1)) + a2)).toNat - (IntKind.i64.wrap (a0.at_ + a1)).toNat)).length)) rfl rfl) rfl ?_));clear H a;intro a H
  refine Ze (Za (wp_seq (Zl H rfl (fun aF=>?_) (fun aF=>?_))))
  · replace hm:=Zu hm aF
    have aV : aA < ((a0.b_.drop (IntKind.i64.wrap (a0.at_ + a1)).toNat).take ((IntKind.i64.wrap ((IntKind.i64.wrap (a0.at_ + a1)) + a2)).toNat - (IntKind.i64.wrap (a0.at_ + a1)).toNat)).length:=of_decide_eq_true aF
    refine wp_skip (Za (wp_seq (wp_block (wp_seq (wp_region_lit ?_)))))
    replace hm:=Zi hm;obtain⟨aU,aG,hm⟩:=hm
    obtain⟨aW,aH⟩:=SlR.adV (aB _ (ro0_b _ hS.chg)) aE aG
    refine n_q H (Jn (i:=aA) Tryz.underlying100 sz5 rfl aE aH rfl (Ho aG)) rfl (W_q (Zf rfl (SlR.ldOneV (aB _ (ro0_b _ hS.chg)) aE aH ag5 aG rfl)) rfl (W_q (Zb rfl) rfl ?_));clear H a;intro a H
    refine Ze (Za (wp_region_lit (n_q H (Zc rfl) rfl (W_q (q_shl rfl rfl (by decide)) rfl (W_q (Zc rfl) rfl (W_q (Qo (Xn Tryz.underlying5 Tryz.underlying3 ⟨_,rfl⟩ rfl) (Xa _)) rfl (W_q (q_or rfl rfl) rfl (W_q (Zb rfl) rfl ?_))))))));clear H a;intro a H
    refine Ze (Zm (Za (wp_region_lit (n_q H (Kb (i:=aA) (j:=1) rfl rfl (by omega)) rfl (W_q (Zc rfl) rfl ?_)))));clear H a;intro a H
    refine Ze (Za ?_)
    obtain rfl:=Option.some.inj hm
    exact Vh (aT,(bitOr .i64 (shL .i64 aD 8) (aU.toNat : Int)),aA + 1) H ⟨rfl,rfl,rfl,rfl,rfl,trivial⟩ ⟨aJ,hS⟩ (Nat.lt_succ_self _)
  replace hm:=Zv hm aF
  refine wp_exit (Zn (Zn (Zy ?_)))
  obtain rfl:=Option.some.inj hm;have hz : _=aM:=aJ;subst hz;replace hm:=aP;try dsimp only at hm
  refine Za (wp_seq (wp_region_lit (n_q H (Zc rfl) rfl (W_q (Zb rfl) rfl ?_))));clear H a;intro a H
  refine Ze (Za (wp_ret ?_))
  obtain rfl:=Option.some.inj hm
  refine Je H (.inr rfl) rfl rfl ?_
  exact⟨rfl,hS⟩
theorem Gd {w : World} {A : Nat → Addr} {fp : Nat → Prop} {b0 : Nat} {v0_0 : Value} {a0 : GWireCursor} {a1 : Int} {a2 : Int} {a3 : Int} (hG : ∀ w',ChgP fp w w' → EV A w') (hP : Sep w fp [blkR b0 [v0_0,.int .i64 a0.at_,.int .i64 a0.bound_] 248]) (ro0_b : ∀ w',ChgP fp w w' → SlR w' 1 (Zq eB) v0_0 a0.b_) {r : Int × ErrM × GWireCursor} (hm : Ql a0 a1 a2 a3=some r) :
    Calls Tryz.prog 175 [.pointer (some ⟨b0,0,none⟩),.int .i64 a1,.int .i64 a2,.int .i64 a3].toArray w (Ret fun u w'=>∃ h_0,u=.tuple #[.int .i64 r.1,h_0] ∧ St fp w w' [blkR b0 [v0_0,.int .i64 r.2.2.at_,.int .i64 r.2.2.bound_] 248,erQ A h_0 r.2.1]):=by
  have hS:=St.init hP
  unfold Ql at hm
  refine enter Tryz.func175 rfl rfl rfl ?_;intro a H;dsimp only [Qk,Nat.zero_add,Nat.reduceAdd] at H
  refine wp_seq (wp_region_lit (n_q H (Zb rfl) rfl (W_q (Zb rfl) rfl ?_)));clear H a;intro a H
  refine Ze (Za (wp_seq (wp_seq (wp_region_lit (n_c H (fun HC=>?_))))));clear H
  refine Tn HC (Zc rfl) rfl (by kernel_rfl) (V_q (Vo rfl rfl) rfl (by kernel_rfl) (V_q (Zc rfl) rfl (by kernel_rfl) (V_g (Zc rfl) (by kernel_rfl) (by kernel_rfl) (by kernel_rfl) (V_g (Vo rfl rfl) (by kernel_rfl) (by kernel_rfl) (by kernel_rfl) (Zmg (j:=2) rfl rfl rfl (by kernel_rfl) (by kernel_rfl) (V_q (Zc rfl) rfl (by kernel_rfl) (V_g (Zc rfl) (by kernel_rfl) (by kernel_rfl) (by kernel_rfl) (V_g (Vo rfl rfl) (by kernel_rfl) (by kernel_rfl) (by kernel_rfl) (Zmg (j:=6) rfl rfl rfl (by kernel_rfl) (by kernel_rfl) ?_)))))))));clear HC a;intro a HC
  have H:=HC.has;clear HC
  refine Ze (Za (Zl H rfl (fun aA=>?_) (fun aA=>?_)))
  · replace hm:=Zu hm aA
    refine wp_seq (Ww (by kernel_rfl) (by kernel_rfl) ?_)
    refine Xb H (Zf rfl ((hG _ hS.chg).ld gArg (by decide) Hv)) rfl ?_;clear H a;intro a H
    refine Xb H (Zb rfl) rfl ?_;clear H a;intro a H
    refine Xb H (Zb rfl) rfl ?_;clear H a;intro a H
    refine To ?_;intro bH aU
    replace hS:=hS.ext aU
    refine Za (wp_ret (Zh ?_))
    obtain rfl:=Option.some.inj hm
    replace hS:=hS.dVar (A:=A) (g:=gArg) (by decide)
    replace hS:=hS.pk1
    refine Zda H (.inr rfl) rfl rfl rfl ?_
    exact⟨_,rfl,hS⟩
  replace hm:=Zv hm aA
  refine wp_skip (Za (wp_seq (wp_seq (wp_region_lit (n_q H (Zc rfl) rfl ?_)))));clear H a;intro a H
  obtain⟨bF,aG,aH,aV,aI⟩:=hS.frame (rs1:=[blkR b0 [v0_0,.int .i64 a0.at_,.int .i64 a0.bound_] 248])
  replace hm:=Zi hm;obtain⟨aF,aW,hm⟩:=hm
  refine Zj H rfl Zk9 (Xs (A:=A) aG (a0:=(⟨a0.b_,a0.at_,a0.bound_⟩ : GWireCursor)) (fun w' hw=>ro0_b _ (aH _ hw)) aW) rfl ?_
  clear H;intro bI aS hv;clear a;intro a H;obtain⟨rfl,aX⟩:=hv
  replace hS:=aI _ _ aX;simp only [List.cons_append,List.nil_append] at hS;clear aG aH aV aI
  refine n_q H (Zc rfl) rfl (W_q (Un rfl rfl) rfl ?_);clear H a;intro a H
  refine Ze (Za (Zl H rfl (fun aB=>?_) (fun aB=>?_)))
  · replace hm:=Zu hm aB
    refine wp_seq (Gi [] 8 (by kernel_rfl) ?_)
    obtain⟨aJ,aC⟩ : ∃ x,x=aS.drew:=⟨_,rfl⟩;rw [← aC];have aY : Ext aS aJ:=by rw [aC];exact Ext.drew' _
    clear aC
    replace hS:=hS.ext aY
    have aK:=hS
    have hW:=Nat.le_refl aJ.heap.size
    refine Zg 0 H rfl (Zc rfl) rfl (by kernel_rfl) (by kernel_rfl) (by kernel_rfl) (by kernel_rfl) (fun _ _ _ h=>h) ?_;clear H a;intro a H
    refine Zg 1 H rfl (Zp rfl) rfl (by kernel_rfl) (by kernel_rfl) (by kernel_rfl) (by kernel_rfl) (fun _ _ _ h=>h) ?_;clear H a;intro a H
    refine Zg 2 H rfl (Zd rfl Uk) rfl (by kernel_rfl) (by kernel_rfl) (by kernel_rfl) (by kernel_rfl) (fun _ _ _ h=>h) ?_;clear H a;intro a H
    refine Xo 3 H rfl (Zf rfl (LdC.old ((aK.blk 0 rfl).ld ag3 rfl) Ext.rfl' (Nat.le_refl _) (by simp))) rfl (by kernel_rfl) (by kernel_rfl) (by kernel_rfl) (by kernel_rfl) (fun _ _ _ h=>h) ?_;clear H a;intro a H
    refine Xo 4 H rfl (Zf rfl (LdC.old ((hG _ aK.chg).ld Vb (by decide) Hv) Ext.rfl' (Nat.le_refl _) (by simp))) rfl (by kernel_rfl) (by kernel_rfl) (by kernel_rfl) (by kernel_rfl) (fun _ _ _ h=>h) ?_;clear H a;intro a H
    replace hm:=Zi hm;obtain⟨bJ,aZ,hm⟩:=hm
    refine Xu 5 (by kernel_rfl) ?_
    refine Xy 5 H rfl rfl Zk3 (Gs (A:=A) (Xw.var (by decide) : IsE A aJ _ (.v Vb)) aZ) rfl (fun v w hv=>.inl (ChgF.of_ext (by obtain⟨_,_,hE0⟩:=hv;exact hE0.x))) ?_
    clear H;intro bK bL hv;clear a;intro a H;obtain⟨_,rfl,aL⟩:=hv
    replace hS:=hS.new aL;simp only [List.cons_append,List.nil_append] at hS
    replace hW:=Nat.le_trans hW aL.x.size
    refine Zg 6 H rfl (Zb rfl) rfl (by kernel_rfl) (by kernel_rfl) (by kernel_rfl) (by kernel_rfl) (fun _ _ _ h=>h) ?_;clear H a;intro a H
    refine Zg 7 H rfl (Zb rfl) rfl (by kernel_rfl) (by kernel_rfl) (by kernel_rfl) (by kernel_rfl) (fun _ _ _ h=>h) ?_;clear H a;intro a H
    refine Qx (by kernel_rfl) ?_
    refine Za (wp_ret (Zh ?_))
    obtain rfl:=Option.some.inj hm
    replace hS:=hS.pk1
    refine Zda H (.inr rfl) rfl rfl rfl ?_
    exact⟨_,rfl,hS⟩
  replace hm:=Zv hm aB
  refine wp_skip (Za (wp_seq (wp_region_lit (n_q H (Zc rfl) rfl (W_q (Zc rfl) rfl ?_)))));clear H a;intro a H
  obtain⟨bG,aM,aN,a9,aO⟩:=hS.frame (rs1:=[blkR b0 [v0_0,.int .i64 aF.2.at_,.int .i64 aF.2.bound_] 248])
  replace hm:=Zi hm;obtain⟨bM,bA,hm⟩:=hm
  refine Zj H rfl Zt9 (Hl (A:=A) aM (a0:=(⟨a0.b_,aF.2.at_,aF.2.bound_⟩ : GWireCursor)) (fun w' hw=>ro0_b _ (aN _ hw)) bA) rfl ?_
  clear H;intro bN aT hv;clear a;intro a H;obtain⟨rfl,bB⟩:=hv
  replace hS:=aO _ _ bB;simp only [List.cons_append,List.nil_append] at hS;clear aM aN a9 aO
  refine n_q H (Zb rfl) rfl ?_;clear H a;intro a H
  refine Ze (Za (wp_seq (wp_seq (wp_region_lit (n_c H (fun HC=>?_))))));clear H
  refine Tn HC (Zc rfl) rfl (by kernel_rfl) (V_q (Zc rfl) rfl (by kernel_rfl) (V_q (Un rfl rfl) rfl (by kernel_rfl) (V_q (Zc rfl) rfl (by kernel_rfl) (V_g (Zc rfl) (by kernel_rfl) (by kernel_rfl) (by kernel_rfl) (V_g (Zc rfl) (by kernel_rfl) (by kernel_rfl) (by kernel_rfl) (V_g (Hp rfl rfl) (by kernel_rfl) (by kernel_rfl) (by kernel_rfl) (Zet (j:=3) rfl rfl rfl (by kernel_rfl) (by kernel_rfl) ?_)))))));clear HC a;intro a HC
  have H:=HC.has;clear HC
  refine Ze (Za (Zl H rfl (fun aD=>?_) (fun aD=>?_)))
  · replace hm:=Zu hm aD
    refine wp_seq (Gi [] 8 (by kernel_rfl) ?_)
    obtain⟨aP,aE⟩ : ∃ x,x=aT.drew:=⟨_,rfl⟩;rw [← aE];have bC : Ext aT aP:=by rw [aE];exact Ext.drew' _
    clear aE
    replace hS:=hS.ext bC
    have aQ:=hS
    have hW:=Nat.le_refl aP.heap.size
    refine Zg 0 H rfl (Zc rfl) rfl (by kernel_rfl) (by kernel_rfl) (by kernel_rfl) (by kernel_rfl) (fun _ _ _ h=>h) ?_;clear H a;intro a H
    refine Zg 1 H rfl (Zp rfl) rfl (by kernel_rfl) (by kernel_rfl) (by kernel_rfl) (by kernel_rfl) (fun _ _ _ h=>h) ?_;clear H a;intro a H
    refine Zg 2 H rfl (Zd rfl Uk) rfl (by kernel_rfl) (by kernel_rfl) (by kernel_rfl) (by kernel_rfl) (fun _ _ _ h=>h) ?_;clear H a;intro a H
    refine Xo 3 H rfl (Zf rfl (LdC.old ((aQ.blk 0 rfl).ld ag3 rfl) Ext.rfl' (Nat.le_refl _) (by simp))) rfl (by kernel_rfl) (by kernel_rfl) (by kernel_rfl) (by kernel_rfl) (fun _ _ _ h=>h) ?_;clear H a;intro a H
    refine Xo 4 H rfl (Zf rfl (LdC.old ((hG _ aQ.chg).ld Kl (by decide) Hv) Ext.rfl' (Nat.le_refl _) (by simp))) rfl (by kernel_rfl) (by kernel_rfl) (by kernel_rfl) (by kernel_rfl) (fun _ _ _ h=>h) ?_;clear H a;intro a H
    replace hm:=Zi hm;obtain⟨bO,bD,hm⟩:=hm
    refine Xu 5 (by kernel_rfl) ?_
    refine Xy 5 H rfl rfl Zk3 (Gs (A:=A) (Xw.var (by decide) : IsE A aP _ (.v Kl)) bD) rfl (fun v w hv=>.inl (ChgF.of_ext (by obtain⟨_,_,hE0⟩:=hv;exact hE0.x))) ?_
    clear H;intro bP bQ hv;clear a;intro a H;obtain⟨_,rfl,aR⟩:=hv
    replace hS:=hS.new aR;simp only [List.cons_append,List.nil_append] at hS
    replace hW:=Nat.le_trans hW aR.x.size
    refine Zg 6 H rfl (Zb rfl) rfl (by kernel_rfl) (by kernel_rfl) (by kernel_rfl) (by kernel_rfl) (fun _ _ _ h=>h) ?_;clear H a;intro a H
    refine Zg 7 H rfl (Zb rfl) rfl (by kernel_rfl) (by kernel_rfl) (by kernel_rfl) (by kernel_rfl) (fun _ _ _ h=>h) ?_;clear H a;intro a H
    refine Qx (by kernel_rfl) ?_
    refine Za (wp_ret (Zh ?_))
    obtain rfl:=Option.some.inj hm
    replace hS:=hS.pk1
    refine Zda H (.inr rfl) rfl rfl rfl ?_
    exact⟨_,rfl,hS⟩
  replace hm:=Zv hm aD
  refine wp_skip (Za (wp_seq (wp_region_lit (n_q H (Zc rfl) rfl (W_q (Zp rfl) rfl (W_q (Zd rfl Uk) rfl (W_q (Zf rfl ((hS.blk 0 rfl).ld ag3 rfl)) rfl (W_q (Zc rfl) rfl (W_q (Xv rfl rfl) rfl (W_q (Zp rfl) rfl (W_q (Zd rfl Uk) rfl ?_)))))))))));clear H a;intro a H
  refine Jz H rfl rfl sz3 (hS.blk 0 rfl) (by simp) rfl ?_
  clear H;intro bR hN bE hz;clear a;intro a H;replace hS:=hS.setBlk hN bE;clear hN hz
  try simp only [List.set_cons_succ,List.set_cons_zero] at hS
  refine Ze (Za (wp_seq (wp_region_lit (n_q H (Zc rfl) rfl (W_q (Zb rfl) rfl (W_q (Zb rfl) rfl ?_))))));clear H a;intro a H
  refine Ze (Za (wp_ret ?_))
  obtain rfl:=Option.some.inj hm
  replace hS:=hS.dNil (A:=A)
  replace hS:=hS.pk1
  refine Zda H (.inr rfl) rfl rfl rfl ?_
  exact⟨_,rfl,hS⟩
theorem Tc {w : World} {A : Nat → Addr} {fp : Nat → Prop} {b0 : Nat} {v0_0 : Value} {a0 : GWireCursor} (hG : ∀ w',ChgP fp w w' → EV A w') (hP : Sep w fp [blkR b0 [v0_0,.int .i64 a0.at_,.int .i64 a0.bound_] 248]) (ro0_b : ∀ w',ChgP fp w w' → SlR w' 1 (Zq eB) v0_0 a0.b_) {r : Int × ErrM × GWireCursor} (hm : Ku a0=some r) :
    Calls Tryz.prog 102 [.pointer (some ⟨b0,0,none⟩)].toArray w (Ret fun u w'=>∃ h_0,u=.tuple #[.int .i64 r.1,h_0] ∧ St fp w w' [blkR b0 [v0_0,.int .i64 r.2.2.at_,.int .i64 r.2.2.bound_] 248,erQ A h_0 r.2.1]):=by
  have hS:=St.init hP
  unfold Ku at hm
  refine enter Tryz.func102 rfl rfl rfl ?_;intro a H;dsimp only [Qk,Nat.zero_add,Nat.reduceAdd] at H
  refine wp_seq (wp_region_lit (n_q H (Zb rfl) rfl (W_q (Zb rfl) rfl ?_)));clear H a;intro a H
  refine Ze (Za (wp_seq (wp_region_lit (n_q H (Zc rfl) rfl ?_))));clear H a;intro a H
  replace hm:=Zi hm;obtain⟨aJ,aD,hm⟩:=hm
  refine Zj H rfl Zr1 (Za2 (A:=A) aD) rfl ?_
  clear H;intro aK aL hv;clear a;intro a H;obtain⟨rfl,aE⟩:=hv
  replace hS:=hS.ext aE
  obtain⟨aI,aB,aA,aF,aC⟩:=hS.frame (rs1:=[blkR b0 [v0_0,.int .i64 a0.at_,.int .i64 a0.bound_] 248])
  replace hm:=Zi hm;obtain⟨aM,aG,hm⟩:=hm
  refine Zj H rfl Zt8 (Gd (A:=A) (fun w' hw=>hG _ (aA _ hw)) aB (a0:=(⟨a0.b_,a0.at_,a0.bound_⟩ : GWireCursor)) (fun w' hw=>ro0_b _ (aA _ hw)) aG) rfl ?_
  clear H;intro aN aO hv;clear a;intro a H;obtain⟨aP,rfl,aH⟩:=hv
  replace hS:=aC _ _ aH;simp only [List.cons_append,List.nil_append] at hS;clear aB aA aF aC
  refine n_q H (Zk rfl rfl) rfl (W_q (Zk rfl rfl) rfl (W_q (Zb rfl) rfl (W_q (Zb rfl) rfl ?_)));clear H a;intro a H
  refine Ze (Za (wp_ret ?_))
  obtain rfl:=Option.some.inj hm
  refine Zda H (.inr rfl) rfl rfl rfl ?_
  exact⟨_,rfl,hS⟩
theorem Zax {w : World} {A : Nat → Addr} {fp : Nat → Prop} {b0 : Nat} {v0_0 : Value} {a0 : GWireCursor} (hG : ∀ w',ChgP fp w w' → EV A w') (hP : Sep w fp [blkR b0 [v0_0,.int .i64 a0.at_,.int .i64 a0.bound_] 248]) (ro0_b : ∀ w',ChgP fp w w' → SlR w' 1 (Zq eB) v0_0 a0.b_) {r : Bool × ErrM × GWireCursor} (hm : Yg a0=some r) :
    Calls Tryz.prog 103 [.pointer (some ⟨b0,0,none⟩)].toArray w (Ret fun u w'=>∃ h_0,u=.tuple #[.bool r.1,h_0] ∧ St fp w w' [blkR b0 [v0_0,.int .i64 r.2.2.at_,.int .i64 r.2.2.bound_] 248,erQ A h_0 r.2.1]):=by
  have hS:=St.init hP
  unfold Yg at hm
  refine enter Tryz.func103 rfl rfl rfl ?_;intro a H;dsimp only [Qk,Nat.zero_add,Nat.reduceAdd] at H
  refine wp_seq (wp_region_lit (n_q H (Zb rfl) rfl (W_q (Zb rfl) rfl ?_)));clear H a;intro a H
  refine Ze (Za (wp_seq (wp_region_lit (n_q H (Zc rfl) rfl ?_))));clear H a;intro a H
  obtain⟨aG,aB,aA,aD,aC⟩:=hS.frame (rs1:=[blkR b0 [v0_0,.int .i64 a0.at_,.int .i64 a0.bound_] 248])
  replace hm:=Zi hm;obtain⟨aH,aE,hm⟩:=hm
  refine Zj H rfl Zt8 (Gd (A:=A) (fun w' hw=>hG _ (aA _ hw)) aB (a0:=(⟨a0.b_,a0.at_,a0.bound_⟩ : GWireCursor)) (fun w' hw=>ro0_b _ (aA _ hw)) aE) rfl ?_
  clear H;intro aI aJ hv;clear a;intro a H;obtain⟨aK,rfl,aF⟩:=hv
  replace hS:=aC _ _ aF;simp only [List.cons_append,List.nil_append] at hS;clear aB aA aD aC
  refine n_q H (Zc rfl) rfl (W_q (Zk rfl rfl) rfl (W_q (Zk rfl rfl) rfl (W_q (Zb rfl) rfl (W_q (Zb rfl) rfl ?_))));clear H a;intro a H
  refine Ze (Za (wp_seq (wp_region_lit (n_q H (Zc rfl) rfl (W_q (Ky rfl rfl) rfl (W_q (Zc rfl) rfl (W_q (Zb rfl) rfl (W_q (Zb rfl) rfl ?_))))))));clear H a;intro a H
  refine Ze (Za (wp_ret ?_))
  obtain rfl:=Option.some.inj hm
  refine Zda H (.inr rfl) rfl rfl rfl ?_
  exact⟨_,rfl,hS⟩
theorem Zeb {w : World} {A : Nat → Addr} {fp : Nat → Prop} {b0 : Nat} {v0_0 : Value} {a0 : GWireCursor} (hG : ∀ w',ChgP fp w w' → EV A w') (hP : Sep w fp [blkR b0 [v0_0,.int .i64 a0.at_,.int .i64 a0.bound_] 248]) (ro0_b : ∀ w',ChgP fp w w' → SlR w' 1 (Zq eB) v0_0 a0.b_) {r : Int × Int × ErrM × GWireCursor} (hm : Yh a0=some r) :
    Calls Tryz.prog 177 [.pointer (some ⟨b0,0,none⟩)].toArray w (Ret fun u w'=>∃ h_0,u=.tuple #[.int .i64 r.1,.int .i64 r.2.1,h_0] ∧ St fp w w' [blkR b0 [v0_0,.int .i64 r.2.2.2.at_,.int .i64 r.2.2.2.bound_] 248,erQ A h_0 r.2.2.1]):=by
  have hS:=St.init hP
  unfold Yh at hm
  refine enter Tryz.func177 rfl rfl rfl ?_;intro a H;dsimp only [Qk,Nat.zero_add,Nat.reduceAdd] at H
  refine wp_seq (wp_region_lit (n_q H (Zb rfl) rfl (W_q (Zb rfl) rfl (W_q (Zb rfl) rfl ?_))));clear H a;intro a H
  refine Ze (Za (wp_seq (wp_seq (wp_region_lit (n_q H (Zc rfl) rfl ?_)))));clear H a;intro a H
  obtain⟨bC,aE,aF,aR,aG⟩:=hS.frame (rs1:=[blkR b0 [v0_0,.int .i64 a0.at_,.int .i64 a0.bound_] 248])
  replace hm:=Zi hm;obtain⟨aD,aS,hm⟩:=hm
  refine Zj H rfl Zk9 (Xs (A:=A) aE (a0:=(⟨a0.b_,a0.at_,a0.bound_⟩ : GWireCursor)) (fun w' hw=>ro0_b _ (aF _ hw)) aS) rfl ?_
  clear H;intro bF aQ hv;clear a;intro a H;obtain⟨rfl,aT⟩:=hv
  replace hS:=aG _ _ aT;simp only [List.cons_append,List.nil_append] at hS;clear aE aF aR aG
  refine n_q H (Un rfl rfl) rfl ?_;clear H a;intro a H
  refine Ze (Za (Zl H rfl (fun aB=>?_) (fun aB=>?_)))
  · replace hm:=Zu hm aB
    refine wp_seq (Gi [] 9 (by kernel_rfl) ?_)
    obtain⟨aH,aC⟩ : ∃ x,x=aQ.drew:=⟨_,rfl⟩;rw [← aC];have aU : Ext aQ aH:=by rw [aC];exact Ext.drew' _
    clear aC
    replace hS:=hS.ext aU
    have aI:=hS
    have hW:=Nat.le_refl aH.heap.size
    refine Zg 0 H rfl (Zc rfl) rfl (by kernel_rfl) (by kernel_rfl) (by kernel_rfl) (by kernel_rfl) (fun _ _ _ h=>h) ?_;clear H a;intro a H
    refine Zg 1 H rfl (Zp rfl) rfl (by kernel_rfl) (by kernel_rfl) (by kernel_rfl) (by kernel_rfl) (fun _ _ _ h=>h) ?_;clear H a;intro a H
    refine Zg 2 H rfl (Zd rfl Uk) rfl (by kernel_rfl) (by kernel_rfl) (by kernel_rfl) (by kernel_rfl) (fun _ _ _ h=>h) ?_;clear H a;intro a H
    refine Xo 3 H rfl (Zf rfl (LdC.old ((aI.blk 0 rfl).ld ag3 rfl) Ext.rfl' (Nat.le_refl _) (by simp))) rfl (by kernel_rfl) (by kernel_rfl) (by kernel_rfl) (by kernel_rfl) (fun _ _ _ h=>h) ?_;clear H a;intro a H
    refine Xo 4 H rfl (Zf rfl (LdC.old ((hG _ aI.chg).ld Vb (by decide) Hv) Ext.rfl' (Nat.le_refl _) (by simp))) rfl (by kernel_rfl) (by kernel_rfl) (by kernel_rfl) (by kernel_rfl) (fun _ _ _ h=>h) ?_;clear H a;intro a H
    replace hm:=Zi hm;obtain⟨bG,aV,hm⟩:=hm
    refine Xu 5 (by kernel_rfl) ?_
    refine Xy 5 H rfl rfl Zk3 (Gs (A:=A) (Xw.var (by decide) : IsE A aH _ (.v Vb)) aV) rfl (fun v w hv=>.inl (ChgF.of_ext (by obtain⟨_,_,hE0⟩:=hv;exact hE0.x))) ?_
    clear H;intro u32 bH hv;clear a;intro a H;obtain⟨_,rfl,aJ⟩:=hv
    replace hS:=hS.new aJ;simp only [List.cons_append,List.nil_append] at hS
    replace hW:=Nat.le_trans hW aJ.x.size
    refine Zg 6 H rfl (Zb rfl) rfl (by kernel_rfl) (by kernel_rfl) (by kernel_rfl) (by kernel_rfl) (fun _ _ _ h=>h) ?_;clear H a;intro a H
    refine Zg 7 H rfl (Zb rfl) rfl (by kernel_rfl) (by kernel_rfl) (by kernel_rfl) (by kernel_rfl) (fun _ _ _ h=>h) ?_;clear H a;intro a H
    refine Zg 8 H rfl (Zb rfl) rfl (by kernel_rfl) (by kernel_rfl) (by kernel_rfl) (by kernel_rfl) (fun _ _ _ h=>h) ?_;clear H a;intro a H
    refine Qx (by kernel_rfl) ?_
    refine Za (wp_ret (Zh ?_))
    obtain rfl:=Option.some.inj hm
    replace hS:=hS.pk1
    refine Ti H (.inr rfl) rfl (vs:=[.int .i64 0,.int .i64 0,u32]) (Xh rfl (Xh rfl (Xh rfl Qv))) ?_
    exact⟨_,rfl,hS⟩
  replace hm:=Zv hm aB
  refine wp_skip (Za (wp_seq (wp_region_lit (n_q H (Zc rfl) rfl ?_))));clear H a;intro a H
  obtain⟨bD,aK,aL,aW,aM⟩:=hS.frame (rs1:=[blkR b0 [v0_0,.int .i64 aD.2.at_,.int .i64 aD.2.bound_] 248])
  replace hm:=Zi hm;obtain⟨aA,aX,hm⟩:=hm
  refine Zj H rfl Zt9 (Hl (A:=A) aK (a0:=(⟨a0.b_,aD.2.at_,aD.2.bound_⟩ : GWireCursor)) (fun w' hw=>ro0_b _ (aL _ hw)) aX) rfl ?_
  clear H;intro bI bJ hv;clear a;intro a H;obtain⟨rfl,aY⟩:=hv
  replace hS:=aM _ _ aY;simp only [List.cons_append,List.nil_append] at hS;clear aK aL aW aM
  refine n_q H (Zc rfl) rfl ?_;clear H a;intro a H
  obtain⟨bE,aN,aO,aZ,aP⟩:=hS.frame (rs1:=[blkR b0 [v0_0,.int .i64 aA.2.at_,.int .i64 aA.2.bound_] 248])
  replace hm:=Zi hm;obtain⟨bB,a9,hm⟩:=hm
  refine Zj H rfl Zt9 (Hl (A:=A) aN (a0:=(⟨a0.b_,aA.2.at_,aA.2.bound_⟩ : GWireCursor)) (fun w' hw=>ro0_b _ (aO _ hw)) a9) rfl ?_
  clear H;intro bK bL hv;clear a;intro a H;obtain⟨rfl,bA⟩:=hv
  replace hS:=aP _ _ bA;simp only [List.cons_append,List.nil_append] at hS;clear aN aO aZ aP
  refine n_q H (Zb rfl) rfl (W_q (Zb rfl) rfl (W_q (Zb rfl) rfl ?_));clear H a;intro a H
  refine Ze (Za (wp_ret ?_))
  obtain rfl:=Option.some.inj hm
  replace hS:=hS.dNil (A:=A)
  replace hS:=hS.pk1
  refine Ti H (.inr rfl) rfl (vs:=[.int .i64 aA.1,.int .i64 bB.1,.nilIface]) (Xh rfl (Xh rfl (Xh rfl Qv))) ?_
  exact⟨_,rfl,hS⟩
end Go.Proofs.YtfemfiiagjnhdaaGreatDoor
