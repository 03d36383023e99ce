/- Part of a claim, shortened by a program from its texts: PtB. -/
import Derived.Test.YtfemfiiagjnhdaaGreatDoorQtE
set_option linter.unusedVariables false
set_option linter.unusedSimpArgs false
set_option maxRecDepth 10000
namespace Go.Proofs.YtfemfiiagjnhdaaGreatDoor
open Go Go.RowKit
theorem Ty : Hp Tryz.prog 124=some true:=by kernel_rfl
theorem ag144 : Hp Tryz.prog 144=some true:=by kernel_rfl
theorem ag28 : Hp Tryz.prog 28=some false:=by kernel_rfl
theorem ag32 : Hp Tryz.prog 32=some false:=by kernel_rfl
theorem ag34 : Hp Tryz.prog 34=some true:=by kernel_rfl
theorem ag82 : Hp Tryz.prog 82=some true:=by kernel_rfl
theorem Zi4 : bdB Tryz.prog 124=true:=by kernel_rfl
theorem Zi5 : Gj Tryz.prog 124=some #[(0,1),(1,1)]:=by kernel_rfl
theorem bd144 : bdB Tryz.prog 144=true:=by kernel_rfl
theorem pl144 : Gj Tryz.prog 144=some #[(0,16),(16,1),(17,1),(18,1),(19,1),(20,1)]:=by kernel_rfl
theorem Zeb : bdB Tryz.prog 34=true:=by kernel_rfl
theorem Zec : Gj Tryz.prog 34=some #[(0,1),(1,1),(2,1),(3,1),(4,1),(5,1),(6,1),(7,1),(8,1),(9,1)]:=by kernel_rfl
theorem bd82 : bdB Tryz.prog 82=true:=by kernel_rfl
theorem pl82 : Gj Tryz.prog 82=some #[(0,1),(1,1),(2,64)]:=by kernel_rfl
theorem el114 : ElemOk Tryz.prog 114 2 24 [.int .i64 0,.string ⟨#[]⟩]:=⟨by kernel_rfl,by kernel_rfl,by kernel_rfl,rfl,by decide⟩
theorem el116 : ElemOk Tryz.prog 116 3 24 [.int .i64 0,.int .i64 0,.bool false]:=⟨by kernel_rfl,by kernel_rfl,by kernel_rfl,rfl,by decide⟩
theorem el118 : ElemOk Tryz.prog 118 4 32 [.int .i64 0,.int .i64 0,.int .i64 0,.int .i64 0]:=⟨by kernel_rfl,by kernel_rfl,by kernel_rfl,rfl,by decide⟩
theorem el144 : ElemOk Tryz.prog 144 21 104 [.int .u32 0,.int .u32 0,.int .u32 0,.int .u32 0,.int .u32 0,.int .u32 0,.int .u32 0,.int .u32 0,.int .u32 0,.int .u32 0,.int .u32 0,.int .u32 0,.int .u32 0,.int .u32 0,.int .u32 0,.int .u32 0,.int .u32 0,.int .i64 0,.int .i64 0,.int .i64 0,.int .i64 0]:=⟨by kernel_rfl,by kernel_rfl,by kernel_rfl,rfl,by decide⟩
theorem Zbn : ElemOk Tryz.prog 154 2 32 [.slice none 0 0,.int .i64 0]:=⟨by kernel_rfl,by kernel_rfl,by kernel_rfl,rfl,by decide⟩
theorem el4 : ElemOk Tryz.prog 4 1 1 [.bool false]:=⟨by kernel_rfl,by kernel_rfl,by kernel_rfl,rfl,by decide⟩
theorem el82 : ElemOk Tryz.prog 82 66 80 [.int .i64 0,.bool false,.int .u8 0,.int .u8 0,.int .u8 0,.int .u8 0,.int .u8 0,.int .u8 0,.int .u8 0,.int .u8 0,.int .u8 0,.int .u8 0,.int .u8 0,.int .u8 0,.int .u8 0,.int .u8 0,.int .u8 0,.int .u8 0,.int .u8 0,.int .u8 0,.int .u8 0,.int .u8 0,.int .u8 0,.int .u8 0,.int .u8 0,.int .u8 0,.int .u8 0,.int .u8 0,.int .u8 0,.int .u8 0,.int .u8 0,.int .u8 0,.int .u8 0,.int .u8 0,.int .u8 0,.int .u8 0,.int .u8 0,.int .u8 0,.int .u8 0,.int .u8 0,.int .u8 0,.int .u8 0,.int .u8 0,.int .u8 0,.int .u8 0,.int .u8 0,.int .u8 0,.int .u8 0,.int .u8 0,.int .u8 0,.int .u8 0,.int .u8 0,.int .u8 0,.int .u8 0,.int .u8 0,.int .u8 0,.int .u8 0,.int .u8 0,.int .u8 0,.int .u8 0,.int .u8 0,.int .u8 0,.int .u8 0,.int .u8 0,.int .u8 0,.int .u8 0]:=⟨by kernel_rfl,by kernel_rfl,by kernel_rfl,rfl,by decide⟩
theorem Zi6 : Zp Tryz.prog 118=true:=by kernel_rfl
theorem Zl5 : Zp Tryz.prog 124=true:=by kernel_rfl
theorem Zbo : Zp Tryz.prog 125=true:=by kernel_rfl
theorem en194 : Zp Tryz.prog 194=true:=by kernel_rfl
theorem en46 : Zp Tryz.prog 46=true:=by kernel_rfl
theorem en47 : Zp Tryz.prog 47=true:=by kernel_rfl
theorem en53 : Zp Tryz.prog 53=true:=by kernel_rfl
theorem en56 : Zp Tryz.prog 56=true:=by kernel_rfl
theorem en60 : Zp Tryz.prog 60=true:=by kernel_rfl
theorem en67 : Zp Tryz.prog 67=true:=by kernel_rfl
theorem Zp2 : Za2 Tryz.prog 144 2=some 17:=by kernel_rfl
theorem Zl6 : Za2 Tryz.prog 34 3=some 3:=by kernel_rfl
theorem Zl7 : Za2 Tryz.prog 34 4=some 4:=by kernel_rfl
theorem Zj7 : Za2 Tryz.prog 34 9=some 9:=by kernel_rfl
theorem Zpb : Za2 Tryz.prog 82 2=some 2:=by kernel_rfl
theorem Yi : Xi Tryz.prog 124=some 2:=by kernel_rfl
theorem Zp3 : Xi Tryz.prog 144=some 21:=by kernel_rfl
theorem sz22 : Xi Tryz.prog 22=some 1:=by kernel_rfl
theorem sz23 : Xi Tryz.prog 23=some 1:=by kernel_rfl
theorem sz24 : Xi Tryz.prog 24=some 1:=by kernel_rfl
theorem sz25 : Xi Tryz.prog 25=some 1:=by kernel_rfl
theorem sz28 : Xi Tryz.prog 28=some 1:=by kernel_rfl
theorem sz32 : Xi Tryz.prog 32=some 1:=by kernel_rfl
theorem Zch : Xi Tryz.prog 34=some 10:=by kernel_rfl
theorem sz82 : Xi Tryz.prog 82=some 66:=by kernel_rfl
theorem Zcc : Wt Tryz.prog 124=some [.int .i64 0,.int .i64 0]:=by kernel_rfl
theorem Zp4 : Wt Tryz.prog 144=some [.int .u32 0,.int .u32 0,.int .u32 0,.int .u32 0,.int .u32 0,.int .u32 0,.int .u32 0,.int .u32 0,.int .u32 0,.int .u32 0,.int .u32 0,.int .u32 0,.int .u32 0,.int .u32 0,.int .u32 0,.int .u32 0,.int .u32 0,.int .i64 0,.int .i64 0,.int .i64 0,.int .i64 0]:=by kernel_rfl
theorem Tz : Wt Tryz.prog 34=some [.int .i64 0,.int .i64 0,.int .i64 0,.slice none 0 0,.slice none 0 0,.slice none 0 0,.slice none 0 0,.slice none 0 0,.slice none 0 0,.slice none 0 0]:=by kernel_rfl
theorem ze82 : Wt Tryz.prog 82=some [.int .i64 0,.bool false,.int .u8 0,.int .u8 0,.int .u8 0,.int .u8 0,.int .u8 0,.int .u8 0,.int .u8 0,.int .u8 0,.int .u8 0,.int .u8 0,.int .u8 0,.int .u8 0,.int .u8 0,.int .u8 0,.int .u8 0,.int .u8 0,.int .u8 0,.int .u8 0,.int .u8 0,.int .u8 0,.int .u8 0,.int .u8 0,.int .u8 0,.int .u8 0,.int .u8 0,.int .u8 0,.int .u8 0,.int .u8 0,.int .u8 0,.int .u8 0,.int .u8 0,.int .u8 0,.int .u8 0,.int .u8 0,.int .u8 0,.int .u8 0,.int .u8 0,.int .u8 0,.int .u8 0,.int .u8 0,.int .u8 0,.int .u8 0,.int .u8 0,.int .u8 0,.int .u8 0,.int .u8 0,.int .u8 0,.int .u8 0,.int .u8 0,.int .u8 0,.int .u8 0,.int .u8 0,.int .u8 0,.int .u8 0,.int .u8 0,.int .u8 0,.int .u8 0,.int .u8 0,.int .u8 0,.int .u8 0,.int .u8 0,.int .u8 0,.int .u8 0,.int .u8 0]:=by kernel_rfl
set_option maxHeartbeats 4000000 in
theorem Zgt {w : World} {A : Nat → Addr} {cs0 : List Value} {a0 : GPlan} (hG : EV A w) (h0 : Qs w cs0 a0) {r : GState × ErrM} (hm : Td a0=some r) :
    Calls Tryz.prog 53 [.agg cs0.toArray].toArray w (Ret fun u w'=>∃ h_0 h_1 h_2 h_3 h_4 h_5 h_6 h_7,u=.tuple #[.agg #[.int .i64 r.1.Id,.int .i64 r.1.Frame,.int .i64 r.1.Epoch,h_0,h_1,h_2,h_3,h_4,h_5,h_6],h_7] ∧ St NB w w' [ownR 144 21 h_0 r.1.Procs.length (r.1.Procs.flatMap Hg),ownR 3 1 h_1 r.1.Ready.length (r.1.Ready.flatMap eI),ownR 163 2 h_2 r.1.Timers.length (r.1.Timers.flatMap Zi2),ownR 4 1 h_3 r.1.Up.length (r.1.Up.flatMap eF),ownR 3 1 h_4 r.1.Sems.length (r.1.Sems.flatMap eI),deepR 154 2 Yo h_5 r.1.Ports,ownR 82 66 h_6 r.1.Pages.length (r.1.Pages.flatMap Tt),erQ A h_7 r.2]):=by
  obtain⟨bD,bA,bH,bI,rfl,bJ,bK,cK,aB⟩:=h0
  have hS:=St.begin NB w
  unfold Td at hm
  refine enter Tryz.func53 rfl rfl rfl ?_;intro a H;dsimp only [Qn,Nat.zero_add,Nat.reduceAdd] at H
  refine wp_seq (wp_region_lit (Wi H rfl (cs:=[.int .i64 a0.Id,.bool a0.Mobile,bD,bA,bH,.int .i64 a0.Events,bI]) rfl rfl ?_))
  clear H;intro b8 oZ hN kC hs;clear a;intro a H
  replace hS:=hS.newBlk hN kC hs;clear hN hs
  refine Xf H Tz rfl ?_
  clear H;intro bX o0 hN kD hs;clear a;intro a H
  replace hS:=hS.newBlk hN kD hs;clear hN hs
  refine n_q H (Zb rfl) rfl ?_;clear H a;intro a H
  refine Ze (Za (wp_seq (wp_seq (wp_region_lit (n_q H (Zf rfl ((hS.blk 1 rfl).ldAll Zam Gh)) rfl ?_)))));clear H a;intro a H
  replace hm:=Zj hm;obtain⟨iU,kE,hm⟩:=hm
  refine Zi H rfl en57 (Wy (A:=A) (hG.ext hS.x) (⟨_,_,_,_,rfl,(bJ.ext (Zn.mono _) hS.x),(bK.ext (Zn.mono _) hS.x),(cK.ext (Zn.mono _) hS.x),(aB.ext (Zn.mono _) hS.x)⟩ : Qs _ [.int .i64 a0.Id,.bool a0.Mobile,bD,bA,bH,.int .i64 a0.Events,bI] a0) kE) rfl ?_
  clear H;intro j9 b9 hv;clear a;intro a H;obtain⟨_,rfl,kF⟩:=hv
  replace hS:=hS.new kF;simp only [List.cons_append,List.nil_append] at hS
  refine n_q H (Qq (Jh Tryz.underlying39 rfl rfl (hS.any 0 rfl : IsE A b9 j9 iU).form) (show _=Value.bool (!decide (iU=.nil)) by rw [Xb.isNil (hS.any 0 rfl : IsE A b9 j9 iU)])) rfl ?_;clear H a;intro a H
  refine Ze (Za (Zl H rfl (fun cO=>?_) (fun cO=>?_)))
  · replace hm:=Zu hm cO
    refine wp_seq (Tp (kB w.heap.size (b8 :: []) b9.drew.heap.size) 4 (by kernel_rfl) ?_)
    obtain⟨kA,cP⟩ : ∃ x,x=b9.drew:=⟨_,rfl⟩;rw [← cP];have kG : Ext b9 kA:=by rw [cP];exact Ext.drew' _
    clear cP
    replace hS:=hS.ext kG
    have kN:=(hS.blk 2 rfl).lt
    have kH:=hS.x.size
    have hW:=Nat.le_refl kA.heap.size
    refine Zk 0 H rfl (Qd (cs:=[.int .i64 0,.int .i64 0,.int .i64 0,.slice none 0 0,.slice none 0 0,.slice none 0 0,.slice none 0 0,.slice none 0 0,.slice none 0 0,.slice none 0 0]) Tz Zeb Zec rfl (by kernel_rfl)) rfl (by kernel_rfl) (by kernel_rfl) (by kernel_rfl) (by kernel_rfl) (fun _ _ _ h=>h) ?_;clear H a;intro a H
    refine Xu 1 H rfl (Zf rfl (LdC.old (hG.ld Gf (by decide) Ub) hS.x kH Zfv)) rfl (by kernel_rfl) (by kernel_rfl) (by kernel_rfl) (by kernel_rfl) (fun _ _ _ h=>h) ?_;clear H a;intro a H
    replace hS:=hS.pk1
    refine Qh 2 H rfl rfl rfl (vs:=[.int .i64 0,.int .i64 0,.int .i64 0,.slice none 0 0,.slice none 0 0,.slice none 0 0,.slice none 0 0,.slice none 0 0,.slice none 0 0,.slice none 0 0]) rfl Zch (hS.blk 0 rfl) rfl (by simp) (by kernel_rfl) (.inl (fun h=>Zcs h (hS.ge (i:=0) rfl) (Jv (hS.ne (i:=0) (j:=2) (by decide) rfl rfl) Uw))) ?_
    clear H;intro o1 hN iV hz;clear a;intro a H;replace hS:=hS.setBlk hN iV;clear hN hz;replace hW:=Nat.le_trans hW iV.size
    refine Zk 3 H rfl (Zb rfl) rfl (by kernel_rfl) (by kernel_rfl) (by kernel_rfl) (by kernel_rfl) (fun _ _ _ h=>h) ?_;clear H a;intro a H
    refine Xk (by kernel_rfl) ?_
    refine Za (wp_ret (Zg ?_))
    obtain rfl:=Option.some.inj hm
    replace hS:=hS.nilOwn 144 21
    replace hS:=hS.nilOwn 3 1
    replace hS:=hS.nilOwn 163 2
    replace hS:=hS.nilOwn 4 1
    replace hS:=hS.nilOwn 3 1
    replace hS:=hS.deepNil 154 2 Yo
    replace hS:=hS.nilOwn 82 66
    replace hS:=hS.dVar (A:=A) (g:=Gf) (by decide)
    replace hS:=hS.pk8
    replace hS:=hS.pk1
    replace hS:=hS.pk2
    replace hS:=hS.pk3
    replace hS:=hS.pk4
    replace hS:=hS.pk5
    replace hS:=hS.pk6
    replace hS:=hS.pk7
    replace hS:=hS.pk8
    replace hS:=hS.tk9
    refine Zae H (.inr rfl) rfl (vs:=[.agg #[.int .i64 0,.int .i64 0,.int .i64 0,.slice none 0 0,.slice none 0 0,.slice none 0 0,.slice none 0 0,.slice none 0 0,.slice none 0 0,.slice none 0 0],sv 340 A Gf]) (Xh rfl ((hS.blk 8 rfl).ldAll ag34 Zch) (Kv rfl Xt)) ?_
    replace hS:=hS.tk8
    exact⟨_,_,_,_,_,_,_,_,rfl,hS⟩
  · replace hm:=Zv hm cO
    refine wp_skip (Za ?_)
    replace hm:=Zj hm;obtain⟨o2,hm,aC⟩:=hm
    refine Gw (σ:=(List Bool) × (List Int) × (List GPort) × Value × Value × Value × Nat) H (fun (aV,aW,bF,aR,aS,aT,aY)=>[(1,.pointer (some ⟨b8,0,none⟩)),(2,.pointer (some ⟨bX,0,none⟩)),(4,.pointer (some ⟨aY,0,none⟩))]) (fun (aV,aW,bF,aR,aS,aT,aY) wl=>(Gr a0) (aV,aW,bF)=some r ∧ St NB w wl [blkR b8 [.int .i64 a0.Id,.bool a0.Mobile,bD,bA,bH,.int .i64 a0.Events,bI] 27,blkR bX [.int .i64 0,.int .i64 0,.int .i64 0,.slice none 0 0,.slice none 0 0,.slice none 0 0,.slice none 0 0,.slice none 0 0,.slice none 0 0,.slice none 0 0] 34,blkR aY [.int .i64 a0.Id,.int .i64 0,.int .i64 0,.slice none 0 0,.slice none 0 0,.slice none 0 0,aR,aS,aT,.slice none 0 0] 34,ownR 4 1 aR aV.length (aV.flatMap eF),ownR 3 1 aS aW.length (aW.flatMap eI),deepR 154 2 Yo aT bF]) ?_ ?_
    · skip
      refine Tp [] 15 (by kernel_rfl) ?_
      obtain⟨aI,cI⟩ : ∃ x,x=b9.drew:=⟨_,rfl⟩;rw [← cI];have jV : Ext b9 aI:=by rw [cI];exact Ext.drew' _
      clear cI
      replace hS:=hS.ext jV
      have bY:=hS
      have hW:=Nat.le_refl aI.heap.size
      refine Zk 0 H rfl (Zd rfl Zcu) rfl (by kernel_rfl) (by kernel_rfl) (by kernel_rfl) (by kernel_rfl) (fun _ _ _ h=>h) ?_;clear H a;intro a H
      refine Xu 1 H rfl (Zf rfl (LdC.old ((bY.blk 2 rfl).ld ag3 rfl) Ext.rfl' (Nat.le_refl _) (by simp))) rfl (by kernel_rfl) (by kernel_rfl) (by kernel_rfl) (by kernel_rfl) (fun _ _ _ h=>h) ?_;clear H a;intro a H
      refine Zk 2 H rfl (Zd rfl Zbb) rfl (by kernel_rfl) (by kernel_rfl) (by kernel_rfl) (by kernel_rfl) (fun _ _ _ h=>h) ?_;clear H a;intro a H
      refine Xu 3 H rfl (Zf rfl (LdC.old ((bY.blk 2 rfl).ld ag3 rfl) Ext.rfl' (Nat.le_refl _) (by simp))) rfl (by kernel_rfl) (by kernel_rfl) (by kernel_rfl) (by kernel_rfl) (fun _ _ _ h=>h) ?_;clear H a;intro a H
      refine Zk 5 H rfl (Zd rfl Gc) rfl (by kernel_rfl) (by kernel_rfl) (by kernel_rfl) (by kernel_rfl) (fun _ _ _ h=>h) ?_;clear H a;intro a H
      refine Xu 6 H rfl (Zf rfl (LdC.old ((bY.blk 2 rfl).ld Zgn rfl) Ext.rfl' (Nat.le_refl _) (by simp))) rfl (by kernel_rfl) (by kernel_rfl) (by kernel_rfl) (by kernel_rfl) (fun _ _ _ h=>h) ?_;clear H a;intro a H
      refine Zk 8 H rfl (Zd rfl Gb) rfl (by kernel_rfl) (by kernel_rfl) (by kernel_rfl) (by kernel_rfl) (fun _ _ _ h=>h) ?_;clear H a;intro a H
      refine Xu 9 H rfl (Zf rfl (LdC.old ((bY.blk 2 rfl).ld Zhr rfl) Ext.rfl' (Nat.le_refl _) (by simp))) rfl (by kernel_rfl) (by kernel_rfl) (by kernel_rfl) (by kernel_rfl) (fun _ _ _ h=>h) ?_;clear H a;intro a H
      obtain⟨lQ,lR,jW,kS,kT⟩:=SlR.formV (cK.ext (Zn.mono _) hS.x)
      refine Zk 10 H rfl (Qe Tryz.underlying24 rfl jW) rfl (by kernel_rfl) (by kernel_rfl) (by kernel_rfl) (by kernel_rfl) (fun _ _ _ h=>h) ?_;clear H a;intro a H
      replace hm:=Zbm hm;obtain⟨aA,hm⟩:=hm
      replace hm:=Zbm hm;obtain⟨aE,hm⟩:=hm
      replace hm:=Zj hm;obtain⟨aD,aF,hm⟩:=hm
      replace hm:=Zbm hm;obtain⟨aG,hm⟩:=hm
      refine k_four 4 7 11 13 (by kernel_rfl) ?_ ?_ ?_ ?_
      · skip
        refine Yp (e:=eF) (z0:=false) (L:=a0.Events.toNat) (C:=a0.Events.toNat) 4 H rfl Tryz.underlying30 el4 rfl (by show _=some (Value.int .i64 ((Int.toNat a0.Events : Nat) : Int));rw [Int.toNat_of_nonneg aA];rfl) (by show _=some (Value.int .i64 ((Int.toNat a0.Events : Nat) : Int));rw [Int.toNat_of_nonneg aA];rfl) (Nat.le_refl _) aE (by simp only [maxLen];omega) rfl ?_
        clear H;intro aJ lS hN eO hs;clear a;intro a H;replace hS:=hS.newOwn hN eO (by simp [Vd];omega);clear hN
        replace hW:=Nat.le_trans hW eO.size
        refine Zge 7 11 13 (by kernel_rfl) ?_ ?_ ?_
        · skip
          refine Xr 7 H rfl rfl Zbo (Zw (A:=A) (aB.ext (Zn.mono _) hS.x) aF) rfl (fun v w hv=>.inl (ChgF.of_ext (by obtain⟨_,_,hE0⟩:=hv;exact hE0.x))) ?_
          clear H;intro bO lT hv;clear a;intro a H;obtain⟨_,rfl,eP⟩:=hv
          replace hS:=hS.new eP;simp only [List.cons_append,List.nil_append] at hS
          replace hW:=Nat.le_trans hW eP.x.size
          refine Zd5 11 13 (by kernel_rfl) ?_ ?_
          · skip
            refine Wc (L:=a0.Ports.length) (C:=a0.Ports.length) 11 H rfl Tryz.underlying31 Zbn rfl rfl (Nat.le_refl _) aG (by simp only [maxLen];omega) rfl ?_
            clear H;intro cQ lU hN eQ hs;clear a;intro a H;replace hS:=hS.newOwn hN eQ (by simp [Vd];omega);clear hN
            replace hS:=St.mkDeep0 (R:=Yo) (z0:=(⟨([] : List ByteArray),0⟩ : GPort)) (n:=a0.Ports.length) rfl (by simp) (fun w=>⟨_,rfl,SlR.nil _ _ _⟩) hS
            replace hW:=Nat.le_trans hW eQ.size
            refine Zk 12 H rfl (Qd (cs:=[.int .i64 a0.Id,.int .i64 0,.int .i64 0,.slice none 0 0,.slice none 0 0,.slice none 0 0,.slice (some ⟨aJ,0,none⟩) a0.Events.toNat a0.Events.toNat,bO,.slice (some ⟨cQ,0,none⟩) a0.Ports.length a0.Ports.length,.slice none 0 0]) Tz Zeb Zec rfl ((Qa rfl rfl (by simp)).trans ((Qa (((hS.own 2 rfl).slr rfl (fun _ _=>rfl))).one rfl (by simp)).trans ((Qa (((hS.own 1 rfl).slr rfl (fun _ _=>rfl))).one rfl (by simp)).trans ((Qa ((hS.deepSl 0 rfl)).one rfl (by simp)).trans rfl))))) rfl (by kernel_rfl) (by kernel_rfl) (by kernel_rfl) (by kernel_rfl) (fun _ _ _ h=>h) ?_;clear H a;intro a H
            refine Zdi 13 H rfl Tz rfl (by kernel_rfl) ?_
            clear H;intro iW lV hN eT hs;clear a;intro a H
            have cR : aI.heap.size ≤ iW:=hs ▸ hW
            replace hS:=hS.newBlk hN eT hs;clear hN hs
            replace hW:=Nat.le_trans hW eT.size
            refine Qh 14 H rfl rfl rfl (vs:=[.int .i64 a0.Id,.int .i64 0,.int .i64 0,.slice none 0 0,.slice none 0 0,.slice none 0 0,.slice (some ⟨aJ,0,none⟩) a0.Events.toNat a0.Events.toNat,bO,.slice (some ⟨cQ,0,none⟩) a0.Ports.length a0.Ports.length,.slice none 0 0]) rfl Zch (hS.blk 0 rfl) rfl (by simp [(((hS.own 3 rfl).slr rfl (fun _ _=>rfl))).one,(((hS.own 2 rfl).slr rfl (fun _ _=>rfl))).one,((hS.deepSl 1 rfl)).one]) (by kernel_rfl) (.inl (fun h=>absurd h (Nat.not_lt.2 cR))) ?_
            clear H;intro lW hN eU hz;clear a;intro a H;replace hS:=hS.setBlk hN eU;clear hN hz;replace hW:=Nat.le_trans hW eU.size
            refine Xk (by kernel_rfl) ?_
            refine Za ?_
            obtain rfl:=Option.some.inj hm;replace hm:=aC;try dsimp only at hm
            replace hS:=hS.pk1
            replace hS:=hS.pk2
            replace hS:=hS.pk3
            replace hS:=hS.pk3
            replace hS:=hS.pk5
            replace hS:=hS.pk6
            replace hS:=hS.tk6
            exact Wb ((List.replicate a0.Events.toNat false),aD,(List.replicate a0.Ports.length (⟨([] : List ByteArray),0⟩ : GPort)),.slice (some ⟨aJ,0,none⟩) a0.Events.toNat a0.Events.toNat,bO,.slice (some ⟨cQ,0,none⟩) a0.Ports.length a0.Ports.length,iW) H ⟨rfl,rfl,rfl,trivial⟩ ⟨hm,hS⟩
          · skip
            refine Gn 13 H rfl Tz rfl ?_
            clear H;intro iX lX hN eV hs;clear a;intro a H
            have cT : aI.heap.size ≤ iX:=hs ▸ hW
            replace hS:=hS.newBlk hN eV hs;clear hN hs
            replace hW:=Nat.le_trans hW eV.size
            refine Xl 11 (by kernel_rfl) ?_
            refine Wc (L:=a0.Ports.length) (C:=a0.Ports.length) 11 H rfl Tryz.underlying31 Zbn rfl rfl (Nat.le_refl _) aG (by simp only [maxLen];omega) rfl ?_
            clear H;intro cU lY hN eW hs;clear a;intro a H;replace hS:=hS.newOwn hN eW (by simp [Vd];omega);clear hN
            replace hS:=St.mkDeep0 (R:=Yo) (z0:=(⟨([] : List ByteArray),0⟩ : GPort)) (n:=a0.Ports.length) rfl (by simp) (fun w=>⟨_,rfl,SlR.nil _ _ _⟩) hS
            replace hW:=Nat.le_trans hW eW.size
            refine Zk 12 H rfl (Qd (cs:=[.int .i64 a0.Id,.int .i64 0,.int .i64 0,.slice none 0 0,.slice none 0 0,.slice none 0 0,.slice (some ⟨aJ,0,none⟩) a0.Events.toNat a0.Events.toNat,bO,.slice (some ⟨cU,0,none⟩) a0.Ports.length a0.Ports.length,.slice none 0 0]) Tz Zeb Zec rfl ((Qa rfl rfl (by simp)).trans ((Qa (((hS.own 3 rfl).slr rfl (fun _ _=>rfl))).one rfl (by simp)).trans ((Qa (((hS.own 2 rfl).slr rfl (fun _ _=>rfl))).one rfl (by simp)).trans ((Qa ((hS.deepSl 0 rfl)).one rfl (by simp)).trans rfl))))) rfl (by kernel_rfl) (by kernel_rfl) (by kernel_rfl) (by kernel_rfl) (fun _ _ _ h=>h) ?_;clear H a;intro a H
            replace hS:=hS.pk1
            refine Qh 14 H rfl rfl rfl (vs:=[.int .i64 a0.Id,.int .i64 0,.int .i64 0,.slice none 0 0,.slice none 0 0,.slice none 0 0,.slice (some ⟨aJ,0,none⟩) a0.Events.toNat a0.Events.toNat,bO,.slice (some ⟨cU,0,none⟩) a0.Ports.length a0.Ports.length,.slice none 0 0]) rfl Zch (hS.blk 0 rfl) rfl (by simp [(((hS.own 3 rfl).slr rfl (fun _ _=>rfl))).one,(((hS.own 2 rfl).slr rfl (fun _ _=>rfl))).one,((hS.deepSl 1 rfl)).one]) (by kernel_rfl) (.inl (fun h=>absurd h (Nat.not_lt.2 cT))) ?_
            clear H;intro lZ hN eX hz;clear a;intro a H;replace hS:=hS.setBlk hN eX;clear hN hz;replace hW:=Nat.le_trans hW eX.size
            refine Xk (by kernel_rfl) ?_
            refine Za ?_
            obtain rfl:=Option.some.inj hm;replace hm:=aC;try dsimp only at hm
            replace hS:=hS.pk1
            replace hS:=hS.pk2
            replace hS:=hS.pk3
            replace hS:=hS.pk3
            replace hS:=hS.pk5
            replace hS:=hS.pk6
            replace hS:=hS.tk6
            exact Wb ((List.replicate a0.Events.toNat false),aD,(List.replicate a0.Ports.length (⟨([] : List ByteArray),0⟩ : GPort)),.slice (some ⟨aJ,0,none⟩) a0.Events.toNat a0.Events.toNat,bO,.slice (some ⟨cU,0,none⟩) a0.Ports.length a0.Ports.length,iX) H ⟨rfl,rfl,rfl,trivial⟩ ⟨hm,hS⟩
        · skip
          refine Wc (L:=a0.Ports.length) (C:=a0.Ports.length) 11 H rfl Tryz.underlying31 Zbn rfl rfl (Nat.le_refl _) aG (by simp only [maxLen];omega) rfl ?_
          clear H;intro bP l8 hN eY hs;clear a;intro a H;replace hS:=hS.newOwn hN eY (by simp [Vd];omega);clear hN
          replace hS:=St.mkDeep0 (R:=Yo) (z0:=(⟨([] : List ByteArray),0⟩ : GPort)) (n:=a0.Ports.length) rfl (by simp) (fun w=>⟨_,rfl,SlR.nil _ _ _⟩) hS
          replace hW:=Nat.le_trans hW eY.size
          refine Zd5 7 13 (by kernel_rfl) ?_ ?_
          · skip
            refine Xr 7 H rfl rfl Zbo (Zw (A:=A) (aB.ext (Zn.mono _) hS.x) aF) rfl (fun v w hv=>.inl (ChgF.of_ext (by obtain⟨_,_,hE0⟩:=hv;exact hE0.x))) ?_
            clear H;intro cV l9 hv;clear a;intro a H;obtain⟨_,rfl,eZ⟩:=hv
            replace hS:=hS.new eZ;simp only [List.cons_append,List.nil_append] at hS
            replace hW:=Nat.le_trans hW eZ.x.size
            refine Zk 12 H rfl (Qd (cs:=[.int .i64 a0.Id,.int .i64 0,.int .i64 0,.slice none 0 0,.slice none 0 0,.slice none 0 0,.slice (some ⟨aJ,0,none⟩) a0.Events.toNat a0.Events.toNat,cV,.slice (some ⟨bP,0,none⟩) a0.Ports.length a0.Ports.length,.slice none 0 0]) Tz Zeb Zec rfl ((Qa rfl rfl (by simp)).trans ((Qa (((hS.own 2 rfl).slr rfl (fun _ _=>rfl))).one rfl (by simp)).trans ((Qa (((hS.own 0 rfl).slr rfl (fun _ _=>rfl))).one rfl (by simp)).trans ((Qa ((hS.deepSl 1 rfl)).one rfl (by simp)).trans rfl))))) rfl (by kernel_rfl) (by kernel_rfl) (by kernel_rfl) (by kernel_rfl) (fun _ _ _ h=>h) ?_;clear H a;intro a H
            refine Zdi 13 H rfl Tz rfl (by kernel_rfl) ?_
            clear H;intro iY mA hN e8 hs;clear a;intro a H
            have cW : aI.heap.size ≤ iY:=hs ▸ hW
            replace hS:=hS.newBlk hN e8 hs;clear hN hs
            replace hW:=Nat.le_trans hW e8.size
            refine Qh 14 H rfl rfl rfl (vs:=[.int .i64 a0.Id,.int .i64 0,.int .i64 0,.slice none 0 0,.slice none 0 0,.slice none 0 0,.slice (some ⟨aJ,0,none⟩) a0.Events.toNat a0.Events.toNat,cV,.slice (some ⟨bP,0,none⟩) a0.Ports.length a0.Ports.length,.slice none 0 0]) rfl Zch (hS.blk 0 rfl) rfl (by simp [(((hS.own 3 rfl).slr rfl (fun _ _=>rfl))).one,(((hS.own 1 rfl).slr rfl (fun _ _=>rfl))).one,((hS.deepSl 2 rfl)).one]) (by kernel_rfl) (.inl (fun h=>absurd h (Nat.not_lt.2 cW))) ?_
            clear H;intro mB hN e9 hz;clear a;intro a H;replace hS:=hS.setBlk hN e9;clear hN hz;replace hW:=Nat.le_trans hW e9.size
            refine Xk (by kernel_rfl) ?_
            refine Za ?_
            obtain rfl:=Option.some.inj hm;replace hm:=aC;try dsimp only at hm
            replace hS:=hS.pk2
            replace hS:=hS.pk2
            replace hS:=hS.pk3
            replace hS:=hS.pk3
            replace hS:=hS.pk5
            replace hS:=hS.pk6
            replace hS:=hS.tk6
            exact Wb ((List.replicate a0.Events.toNat false),aD,(List.replicate a0.Ports.length (⟨([] : List ByteArray),0⟩ : GPort)),.slice (some ⟨aJ,0,none⟩) a0.Events.toNat a0.Events.toNat,cV,.slice (some ⟨bP,0,none⟩) a0.Ports.length a0.Ports.length,iY) H ⟨rfl,rfl,rfl,trivial⟩ ⟨hm,hS⟩
          · skip
            refine Gn 13 H rfl Tz rfl ?_
            clear H;intro iZ mC hN fA hs;clear a;intro a H
            have cX : aI.heap.size ≤ iZ:=hs ▸ hW
            replace hS:=hS.newBlk hN fA hs;clear hN hs
            replace hW:=Nat.le_trans hW fA.size
            refine Xl 7 (by kernel_rfl) ?_
            refine Xr 7 H rfl rfl Zbo (Zw (A:=A) (aB.ext (Zn.mono _) hS.x) aF) rfl (fun v w hv=>.inl (ChgF.of_ext (by obtain⟨_,_,hE0⟩:=hv;exact hE0.x))) ?_
            clear H;intro cY mD hv;clear a;intro a H;obtain⟨_,rfl,fB⟩:=hv
            replace hS:=hS.new fB;simp only [List.cons_append,List.nil_append] at hS
            replace hW:=Nat.le_trans hW fB.x.size
            refine Zk 12 H rfl (Qd (cs:=[.int .i64 a0.Id,.int .i64 0,.int .i64 0,.slice none 0 0,.slice none 0 0,.slice none 0 0,.slice (some ⟨aJ,0,none⟩) a0.Events.toNat a0.Events.toNat,cY,.slice (some ⟨bP,0,none⟩) a0.Ports.length a0.Ports.length,.slice none 0 0]) Tz Zeb Zec rfl ((Qa rfl rfl (by simp)).trans ((Qa (((hS.own 3 rfl).slr rfl (fun _ _=>rfl))).one rfl (by simp)).trans ((Qa (((hS.own 0 rfl).slr rfl (fun _ _=>rfl))).one rfl (by simp)).trans ((Qa ((hS.deepSl 2 rfl)).one rfl (by simp)).trans rfl))))) rfl (by kernel_rfl) (by kernel_rfl) (by kernel_rfl) (by kernel_rfl) (fun _ _ _ h=>h) ?_;clear H a;intro a H
            replace hS:=hS.pk1
            refine Qh 14 H rfl rfl rfl (vs:=[.int .i64 a0.Id,.int .i64 0,.int .i64 0,.slice none 0 0,.slice none 0 0,.slice none 0 0,.slice (some ⟨aJ,0,none⟩) a0.Events.toNat a0.Events.toNat,cY,.slice (some ⟨bP,0,none⟩) a0.Ports.length a0.Ports.length,.slice none 0 0]) rfl Zch (hS.blk 0 rfl) rfl (by simp [(((hS.own 3 rfl).slr rfl (fun _ _=>rfl))).one,(((hS.own 1 rfl).slr rfl (fun _ _=>rfl))).one,((hS.deepSl 2 rfl)).one]) (by kernel_rfl) (.inl (fun h=>absurd h (Nat.not_lt.2 cX))) ?_
            clear H;intro mE hN fC hz;clear a;intro a H;replace hS:=hS.setBlk hN fC;clear hN hz;replace hW:=Nat.le_trans hW fC.size
            refine Xk (by kernel_rfl) ?_
            refine Za ?_
            obtain rfl:=Option.some.inj hm;replace hm:=aC;try dsimp only at hm
            replace hS:=hS.pk2
            replace hS:=hS.pk2
            replace hS:=hS.pk3
            replace hS:=hS.pk3
            replace hS:=hS.pk5
            replace hS:=hS.pk6
            replace hS:=hS.tk6
            exact Wb ((List.replicate a0.Events.toNat false),aD,(List.replicate a0.Ports.length (⟨([] : List ByteArray),0⟩ : GPort)),.slice (some ⟨aJ,0,none⟩) a0.Events.toNat a0.Events.toNat,cY,.slice (some ⟨bP,0,none⟩) a0.Ports.length a0.Ports.length,iZ) H ⟨rfl,rfl,rfl,trivial⟩ ⟨hm,hS⟩
        · skip
          refine Gn 13 H rfl Tz rfl ?_
          clear H;intro cZ mF hN fD hs;clear a;intro a H
          have cA : aI.heap.size ≤ cZ:=hs ▸ hW
          replace hS:=hS.newBlk hN fD hs;clear hN hs
          replace hW:=Nat.le_trans hW fD.size
          refine Zd5 7 11 (by kernel_rfl) ?_ ?_
          · skip
            refine Xr 7 H rfl rfl Zbo (Zw (A:=A) (aB.ext (Zn.mono _) hS.x) aF) rfl (fun v w hv=>.inl (ChgF.of_ext (by obtain⟨_,_,hE0⟩:=hv;exact hE0.x))) ?_
            clear H;intro dA mG hv;clear a;intro a H;obtain⟨_,rfl,fE⟩:=hv
            replace hS:=hS.new fE;simp only [List.cons_append,List.nil_append] at hS
            replace hW:=Nat.le_trans hW fE.x.size
            refine Xl 11 (by kernel_rfl) ?_
            refine Wc (L:=a0.Ports.length) (C:=a0.Ports.length) 11 H rfl Tryz.underlying31 Zbn rfl rfl (Nat.le_refl _) aG (by simp only [maxLen];omega) rfl ?_
            clear H;intro dB mH hN fF hs;clear a;intro a H;replace hS:=hS.newOwn hN fF (by simp [Vd];omega);clear hN
            replace hS:=St.mkDeep0 (R:=Yo) (z0:=(⟨([] : List ByteArray),0⟩ : GPort)) (n:=a0.Ports.length) rfl (by simp) (fun w=>⟨_,rfl,SlR.nil _ _ _⟩) hS
            replace hW:=Nat.le_trans hW fF.size
            refine Zk 12 H rfl (Qd (cs:=[.int .i64 a0.Id,.int .i64 0,.int .i64 0,.slice none 0 0,.slice none 0 0,.slice none 0 0,.slice (some ⟨aJ,0,none⟩) a0.Events.toNat a0.Events.toNat,dA,.slice (some ⟨dB,0,none⟩) a0.Ports.length a0.Ports.length,.slice none 0 0]) Tz Zeb Zec rfl ((Qa rfl rfl (by simp)).trans ((Qa (((hS.own 3 rfl).slr rfl (fun _ _=>rfl))).one rfl (by simp)).trans ((Qa (((hS.own 1 rfl).slr rfl (fun _ _=>rfl))).one rfl (by simp)).trans ((Qa ((hS.deepSl 0 rfl)).one rfl (by simp)).trans rfl))))) rfl (by kernel_rfl) (by kernel_rfl) (by kernel_rfl) (by kernel_rfl) (fun _ _ _ h=>h) ?_;clear H a;intro a H
            replace hS:=hS.pk2
            refine Qh 14 H rfl rfl rfl (vs:=[.int .i64 a0.Id,.int .i64 0,.int .i64 0,.slice none 0 0,.slice none 0 0,.slice none 0 0,.slice (some ⟨aJ,0,none⟩) a0.Events.toNat a0.Events.toNat,dA,.slice (some ⟨dB,0,none⟩) a0.Ports.length a0.Ports.length,.slice none 0 0]) rfl Zch (hS.blk 0 rfl) rfl (by simp [(((hS.own 3 rfl).slr rfl (fun _ _=>rfl))).one,(((hS.own 2 rfl).slr rfl (fun _ _=>rfl))).one,((hS.deepSl 1 rfl)).one]) (by kernel_rfl) (.inl (fun h=>absurd h (Nat.not_lt.2 cA))) ?_
            clear H;intro mI hN fG hz;clear a;intro a H;replace hS:=hS.setBlk hN fG;clear hN hz;replace hW:=Nat.le_trans hW fG.size
            refine Xk (by kernel_rfl) ?_
            refine Za ?_
            obtain rfl:=Option.some.inj hm;replace hm:=aC;try dsimp only at hm
            replace hS:=hS.pk1
            replace hS:=hS.pk2
            replace hS:=hS.pk3
            replace hS:=hS.pk3
            replace hS:=hS.pk5
            replace hS:=hS.pk6
            replace hS:=hS.tk6
            exact Wb ((List.replicate a0.Events.toNat false),aD,(List.replicate a0.Ports.length (⟨([] : List ByteArray),0⟩ : GPort)),.slice (some ⟨aJ,0,none⟩) a0.Events.toNat a0.Events.toNat,dA,.slice (some ⟨dB,0,none⟩) a0.Ports.length a0.Ports.length,cZ) H ⟨rfl,rfl,rfl,trivial⟩ ⟨hm,hS⟩
          · skip
            refine Wc (L:=a0.Ports.length) (C:=a0.Ports.length) 11 H rfl Tryz.underlying31 Zbn rfl rfl (Nat.le_refl _) aG (by simp only [maxLen];omega) rfl ?_
            clear H;intro dC mJ hN fH hs;clear a;intro a H;replace hS:=hS.newOwn hN fH (by simp [Vd];omega);clear hN
            replace hS:=St.mkDeep0 (R:=Yo) (z0:=(⟨([] : List ByteArray),0⟩ : GPort)) (n:=a0.Ports.length) rfl (by simp) (fun w=>⟨_,rfl,SlR.nil _ _ _⟩) hS
            replace hW:=Nat.le_trans hW fH.size
            refine Xl 7 (by kernel_rfl) ?_
            refine Xr 7 H rfl rfl Zbo (Zw (A:=A) (aB.ext (Zn.mono _) hS.x) aF) rfl (fun v w hv=>.inl (ChgF.of_ext (by obtain⟨_,_,hE0⟩:=hv;exact hE0.x))) ?_
            clear H;intro dD mK hv;clear a;intro a H;obtain⟨_,rfl,fI⟩:=hv
            replace hS:=hS.new fI;simp only [List.cons_append,List.nil_append] at hS
            replace hW:=Nat.le_trans hW fI.x.size
            refine Zk 12 H rfl (Qd (cs:=[.int .i64 a0.Id,.int .i64 0,.int .i64 0,.slice none 0 0,.slice none 0 0,.slice none 0 0,.slice (some ⟨aJ,0,none⟩) a0.Events.toNat a0.Events.toNat,dD,.slice (some ⟨dC,0,none⟩) a0.Ports.length a0.Ports.length,.slice none 0 0]) Tz Zeb Zec rfl ((Qa rfl rfl (by simp)).trans ((Qa (((hS.own 3 rfl).slr rfl (fun _ _=>rfl))).one rfl (by simp)).trans ((Qa (((hS.own 0 rfl).slr rfl (fun _ _=>rfl))).one rfl (by simp)).trans ((Qa ((hS.deepSl 1 rfl)).one rfl (by simp)).trans rfl))))) rfl (by kernel_rfl) (by kernel_rfl) (by kernel_rfl) (by kernel_rfl) (fun _ _ _ h=>h) ?_;clear H a;intro a H
            replace hS:=hS.pk2
            refine Qh 14 H rfl rfl rfl (vs:=[.int .i64 a0.Id,.int .i64 0,.int .i64 0,.slice none 0 0,.slice none 0 0,.slice none 0 0,.slice (some ⟨aJ,0,none⟩) a0.Events.toNat a0.Events.toNat,dD,.slice (some ⟨dC,0,none⟩) a0.Ports.length a0.Ports.length,.slice none 0 0]) rfl Zch (hS.blk 0 rfl) rfl (by simp [(((hS.own 3 rfl).slr rfl (fun _ _=>rfl))).one,(((hS.own 1 rfl).slr rfl (fun _ _=>rfl))).one,((hS.deepSl 2 rfl)).one]) (by kernel_rfl) (.inl (fun h=>absurd h (Nat.not_lt.2 cA))) ?_
            clear H;intro mL hN fJ hz;clear a;intro a H;replace hS:=hS.setBlk hN fJ;clear hN hz;replace hW:=Nat.le_trans hW fJ.size
            refine Xk (by kernel_rfl) ?_
            refine Za ?_
            obtain rfl:=Option.some.inj hm;replace hm:=aC;try dsimp only at hm
            replace hS:=hS.pk2
            replace hS:=hS.pk2
            replace hS:=hS.pk3
            replace hS:=hS.pk3
            replace hS:=hS.pk5
            replace hS:=hS.pk6
            replace hS:=hS.tk6
            exact Wb ((List.replicate a0.Events.toNat false),aD,(List.replicate a0.Ports.length (⟨([] : List ByteArray),0⟩ : GPort)),.slice (some ⟨aJ,0,none⟩) a0.Events.toNat a0.Events.toNat,dD,.slice (some ⟨dC,0,none⟩) a0.Ports.length a0.Ports.length,cZ) H ⟨rfl,rfl,rfl,trivial⟩ ⟨hm,hS⟩
      · skip
        refine Xr 7 H rfl rfl Zbo (Zw (A:=A) (aB.ext (Zn.mono _) hS.x) aF) rfl (fun v w hv=>.inl (ChgF.of_ext (by obtain⟨_,_,hE0⟩:=hv;exact hE0.x))) ?_
        clear H;intro aK mM hv;clear a;intro a H;obtain⟨_,rfl,fK⟩:=hv
        replace hS:=hS.new fK;simp only [List.cons_append,List.nil_append] at hS
        replace hW:=Nat.le_trans hW fK.x.size
        refine Zge 4 11 13 (by kernel_rfl) ?_ ?_ ?_
        · skip
          refine Yp (e:=eF) (z0:=false) (L:=a0.Events.toNat) (C:=a0.Events.toNat) 4 H rfl Tryz.underlying30 el4 rfl (by show _=some (Value.int .i64 ((Int.toNat a0.Events : Nat) : Int));rw [Int.toNat_of_nonneg aA];rfl) (by show _=some (Value.int .i64 ((Int.toNat a0.Events : Nat) : Int));rw [Int.toNat_of_nonneg aA];rfl) (Nat.le_refl _) aE (by simp only [maxLen];omega) rfl ?_
          clear H;intro bQ mN hN fL hs;clear a;intro a H;replace hS:=hS.newOwn hN fL (by simp [Vd];omega);clear hN
          replace hW:=Nat.le_trans hW fL.size
          refine Zd5 11 13 (by kernel_rfl) ?_ ?_
          · skip
            refine Wc (L:=a0.Ports.length) (C:=a0.Ports.length) 11 H rfl Tryz.underlying31 Zbn rfl rfl (Nat.le_refl _) aG (by simp only [maxLen];omega) rfl ?_
            clear H;intro dE mO hN fM hs;clear a;intro a H;replace hS:=hS.newOwn hN fM (by simp [Vd];omega);clear hN
            replace hS:=St.mkDeep0 (R:=Yo) (z0:=(⟨([] : List ByteArray),0⟩ : GPort)) (n:=a0.Ports.length) rfl (by simp) (fun w=>⟨_,rfl,SlR.nil _ _ _⟩) hS
            replace hW:=Nat.le_trans hW fM.size
            refine Zk 12 H rfl (Qd (cs:=[.int .i64 a0.Id,.int .i64 0,.int .i64 0,.slice none 0 0,.slice none 0 0,.slice none 0 0,.slice (some ⟨bQ,0,none⟩) a0.Events.toNat a0.Events.toNat,aK,.slice (some ⟨dE,0,none⟩) a0.Ports.length a0.Ports.length,.slice none 0 0]) Tz Zeb Zec rfl ((Qa rfl rfl (by simp)).trans ((Qa (((hS.own 1 rfl).slr rfl (fun _ _=>rfl))).one rfl (by simp)).trans ((Qa (((hS.own 2 rfl).slr rfl (fun _ _=>rfl))).one rfl (by simp)).trans ((Qa ((hS.deepSl 0 rfl)).one rfl (by simp)).trans rfl))))) rfl (by kernel_rfl) (by kernel_rfl) (by kernel_rfl) (by kernel_rfl) (fun _ _ _ h=>h) ?_;clear H a;intro a H
            refine Zdi 13 H rfl Tz rfl (by kernel_rfl) ?_
            clear H;intro i0 mP hN fN hs;clear a;intro a H
            have dF : aI.heap.size ≤ i0:=hs ▸ hW
            replace hS:=hS.newBlk hN fN hs;clear hN hs
            replace hW:=Nat.le_trans hW fN.size
            refine Qh 14 H rfl rfl rfl (vs:=[.int .i64 a0.Id,.int .i64 0,.int .i64 0,.slice none 0 0,.slice none 0 0,.slice none 0 0,.slice (some ⟨bQ,0,none⟩) a0.Events.toNat a0.Events.toNat,aK,.slice (some ⟨dE,0,none⟩) a0.Ports.length a0.Ports.length,.slice none 0 0]) rfl Zch (hS.blk 0 rfl) rfl (by simp [(((hS.own 2 rfl).slr rfl (fun _ _=>rfl))).one,(((hS.own 3 rfl).slr rfl (fun _ _=>rfl))).one,((hS.deepSl 1 rfl)).one]) (by kernel_rfl) (.inl (fun h=>absurd h (Nat.not_lt.2 dF))) ?_
            clear H;intro mQ hN fO hz;clear a;intro a H;replace hS:=hS.setBlk hN fO;clear hN hz;replace hW:=Nat.le_trans hW fO.size
            refine Xk (by kernel_rfl) ?_
            refine Za ?_
            obtain rfl:=Option.some.inj hm;replace hm:=aC;try dsimp only at hm
            replace hS:=hS.pk1
            replace hS:=hS.pk3
            replace hS:=hS.pk3
            replace hS:=hS.pk3
            replace hS:=hS.pk5
            replace hS:=hS.pk6
            replace hS:=hS.tk6
            exact Wb ((List.replicate a0.Events.toNat false),aD,(List.replicate a0.Ports.length (⟨([] : List ByteArray),0⟩ : GPort)),.slice (some ⟨bQ,0,none⟩) a0.Events.toNat a0.Events.toNat,aK,.slice (some ⟨dE,0,none⟩) a0.Ports.length a0.Ports.length,i0) H ⟨rfl,rfl,rfl,trivial⟩ ⟨hm,hS⟩
          · skip
            refine Gn 13 H rfl Tz rfl ?_
            clear H;intro i1 mR hN fP hs;clear a;intro a H
            have dG : aI.heap.size ≤ i1:=hs ▸ hW
            replace hS:=hS.newBlk hN fP hs;clear hN hs
            replace hW:=Nat.le_trans hW fP.size
            refine Xl 11 (by kernel_rfl) ?_
            refine Wc (L:=a0.Ports.length) (C:=a0.Ports.length) 11 H rfl Tryz.underlying31 Zbn rfl rfl (Nat.le_refl _) aG (by simp only [maxLen];omega) rfl ?_
            clear H;intro dH mS hN fQ hs;clear a;intro a H;replace hS:=hS.newOwn hN fQ (by simp [Vd];omega);clear hN
            replace hS:=St.mkDeep0 (R:=Yo) (z0:=(⟨([] : List ByteArray),0⟩ : GPort)) (n:=a0.Ports.length) rfl (by simp) (fun w=>⟨_,rfl,SlR.nil _ _ _⟩) hS
            replace hW:=Nat.le_trans hW fQ.size
            refine Zk 12 H rfl (Qd (cs:=[.int .i64 a0.Id,.int .i64 0,.int .i64 0,.slice none 0 0,.slice none 0 0,.slice none 0 0,.slice (some ⟨bQ,0,none⟩) a0.Events.toNat a0.Events.toNat,aK,.slice (some ⟨dH,0,none⟩) a0.Ports.length a0.Ports.length,.slice none 0 0]) Tz Zeb Zec rfl ((Qa rfl rfl (by simp)).trans ((Qa (((hS.own 2 rfl).slr rfl (fun _ _=>rfl))).one rfl (by simp)).trans ((Qa (((hS.own 3 rfl).slr rfl (fun _ _=>rfl))).one rfl (by simp)).trans ((Qa ((hS.deepSl 0 rfl)).one rfl (by simp)).trans rfl))))) rfl (by kernel_rfl) (by kernel_rfl) (by kernel_rfl) (by kernel_rfl) (fun _ _ _ h=>h) ?_;clear H a;intro a H
            replace hS:=hS.pk1
            refine Qh 14 H rfl rfl rfl (vs:=[.int .i64 a0.Id,.int .i64 0,.int .i64 0,.slice none 0 0,.slice none 0 0,.slice none 0 0,.slice (some ⟨bQ,0,none⟩) a0.Events.toNat a0.Events.toNat,aK,.slice (some ⟨dH,0,none⟩) a0.Ports.length a0.Ports.length,.slice none 0 0]) rfl Zch (hS.blk 0 rfl) rfl (by simp [(((hS.own 2 rfl).slr rfl (fun _ _=>rfl))).one,(((hS.own 3 rfl).slr rfl (fun _ _=>rfl))).one,((hS.deepSl 1 rfl)).one]) (by kernel_rfl) (.inl (fun h=>absurd h (Nat.not_lt.2 dG))) ?_
            clear H;intro mT hN fR hz;clear a;intro a H;replace hS:=hS.setBlk hN fR;clear hN hz;replace hW:=Nat.le_trans hW fR.size
            refine Xk (by kernel_rfl) ?_
            refine Za ?_
            obtain rfl:=Option.some.inj hm;replace hm:=aC;try dsimp only at hm
            replace hS:=hS.pk1
            replace hS:=hS.pk3
            replace hS:=hS.pk3
            replace hS:=hS.pk3
            replace hS:=hS.pk5
            replace hS:=hS.pk6
            replace hS:=hS.tk6
            exact Wb ((List.replicate a0.Events.toNat false),aD,(List.replicate a0.Ports.length (⟨([] : List ByteArray),0⟩ : GPort)),.slice (some ⟨bQ,0,none⟩) a0.Events.toNat a0.Events.toNat,aK,.slice (some ⟨dH,0,none⟩) a0.Ports.length a0.Ports.length,i1) H ⟨rfl,rfl,rfl,trivial⟩ ⟨hm,hS⟩
        · skip
          refine Wc (L:=a0.Ports.length) (C:=a0.Ports.length) 11 H rfl Tryz.underlying31 Zbn rfl rfl (Nat.le_refl _) aG (by simp only [maxLen];omega) rfl ?_
          clear H;intro bR mU hN fS hs;clear a;intro a H;replace hS:=hS.newOwn hN fS (by simp [Vd];omega);clear hN
          replace hS:=St.mkDeep0 (R:=Yo) (z0:=(⟨([] : List ByteArray),0⟩ : GPort)) (n:=a0.Ports.length) rfl (by simp) (fun w=>⟨_,rfl,SlR.nil _ _ _⟩) hS
          replace hW:=Nat.le_trans hW fS.size
          refine Zd5 4 13 (by kernel_rfl) ?_ ?_
          · skip
            refine Yp (e:=eF) (z0:=false) (L:=a0.Events.toNat) (C:=a0.Events.toNat) 4 H rfl Tryz.underlying30 el4 rfl (by show _=some (Value.int .i64 ((Int.toNat a0.Events : Nat) : Int));rw [Int.toNat_of_nonneg aA];rfl) (by show _=some (Value.int .i64 ((Int.toNat a0.Events : Nat) : Int));rw [Int.toNat_of_nonneg aA];rfl) (Nat.le_refl _) aE (by simp only [maxLen];omega) rfl ?_
            clear H;intro dI mV hN fT hs;clear a;intro a H;replace hS:=hS.newOwn hN fT (by simp [Vd];omega);clear hN
            replace hW:=Nat.le_trans hW fT.size
            refine Zk 12 H rfl (Qd (cs:=[.int .i64 a0.Id,.int .i64 0,.int .i64 0,.slice none 0 0,.slice none 0 0,.slice none 0 0,.slice (some ⟨dI,0,none⟩) a0.Events.toNat a0.Events.toNat,aK,.slice (some ⟨bR,0,none⟩) a0.Ports.length a0.Ports.length,.slice none 0 0]) Tz Zeb Zec rfl ((Qa rfl rfl (by simp)).trans ((Qa (((hS.own 0 rfl).slr rfl (fun _ _=>rfl))).one rfl (by simp)).trans ((Qa (((hS.own 2 rfl).slr rfl (fun _ _=>rfl))).one rfl (by simp)).trans ((Qa ((hS.deepSl 1 rfl)).one rfl (by simp)).trans rfl))))) rfl (by kernel_rfl) (by kernel_rfl) (by kernel_rfl) (by kernel_rfl) (fun _ _ _ h=>h) ?_;clear H a;intro a H
            refine Zdi 13 H rfl Tz rfl (by kernel_rfl) ?_
            clear H;intro i2 mW hN fU hs;clear a;intro a H
            have dJ : aI.heap.size ≤ i2:=hs ▸ hW
            replace hS:=hS.newBlk hN fU hs;clear hN hs
            replace hW:=Nat.le_trans hW fU.size
            refine Qh 14 H rfl rfl rfl (vs:=[.int .i64 a0.Id,.int .i64 0,.int .i64 0,.slice none 0 0,.slice none 0 0,.slice none 0 0,.slice (some ⟨dI,0,none⟩) a0.Events.toNat a0.Events.toNat,aK,.slice (some ⟨bR,0,none⟩) a0.Ports.length a0.Ports.length,.slice none 0 0]) rfl Zch (hS.blk 0 rfl) rfl (by simp [(((hS.own 1 rfl).slr rfl (fun _ _=>rfl))).one,(((hS.own 3 rfl).slr rfl (fun _ _=>rfl))).one,((hS.deepSl 2 rfl)).one]) (by kernel_rfl) (.inl (fun h=>absurd h (Nat.not_lt.2 dJ))) ?_
            clear H;intro mX hN fV hz;clear a;intro a H;replace hS:=hS.setBlk hN fV;clear hN hz;replace hW:=Nat.le_trans hW fV.size
            refine Xk (by kernel_rfl) ?_
            refine Za ?_
            obtain rfl:=Option.some.inj hm;replace hm:=aC;try dsimp only at hm
            replace hS:=hS.pk2
            replace hS:=hS.pk3
            replace hS:=hS.pk3
            replace hS:=hS.pk3
            replace hS:=hS.pk5
            replace hS:=hS.pk6
            replace hS:=hS.tk6
            exact Wb ((List.replicate a0.Events.toNat false),aD,(List.replicate a0.Ports.length (⟨([] : List ByteArray),0⟩ : GPort)),.slice (some ⟨dI,0,none⟩) a0.Events.toNat a0.Events.toNat,aK,.slice (some ⟨bR,0,none⟩) a0.Ports.length a0.Ports.length,i2) H ⟨rfl,rfl,rfl,trivial⟩ ⟨hm,hS⟩
          · skip
            refine Gn 13 H rfl Tz rfl ?_
            clear H;intro i3 mY hN fW hs;clear a;intro a H
            have dK : aI.heap.size ≤ i3:=hs ▸ hW
            replace hS:=hS.newBlk hN fW hs;clear hN hs
            replace hW:=Nat.le_trans hW fW.size
            refine Xl 4 (by kernel_rfl) ?_
            refine Yp (e:=eF) (z0:=false) (L:=a0.Events.toNat) (C:=a0.Events.toNat) 4 H rfl Tryz.underlying30 el4 rfl (by show _=some (Value.int .i64 ((Int.toNat a0.Events : Nat) : Int));rw [Int.toNat_of_nonneg aA];rfl) (by show _=some (Value.int .i64 ((Int.toNat a0.Events : Nat) : Int));rw [Int.toNat_of_nonneg aA];rfl) (Nat.le_refl _) aE (by simp only [maxLen];omega) rfl ?_
            clear H;intro dL mZ hN fX hs;clear a;intro a H;replace hS:=hS.newOwn hN fX (by simp [Vd];omega);clear hN
            replace hW:=Nat.le_trans hW fX.size
            refine Zk 12 H rfl (Qd (cs:=[.int .i64 a0.Id,.int .i64 0,.int .i64 0,.slice none 0 0,.slice none 0 0,.slice none 0 0,.slice (some ⟨dL,0,none⟩) a0.Events.toNat a0.Events.toNat,aK,.slice (some ⟨bR,0,none⟩) a0.Ports.length a0.Ports.length,.slice none 0 0]) Tz Zeb Zec rfl ((Qa rfl rfl (by simp)).trans ((Qa (((hS.own 0 rfl).slr rfl (fun _ _=>rfl))).one rfl (by simp)).trans ((Qa (((hS.own 3 rfl).slr rfl (fun _ _=>rfl))).one rfl (by simp)).trans ((Qa ((hS.deepSl 2 rfl)).one rfl (by simp)).trans rfl))))) rfl (by kernel_rfl) (by kernel_rfl) (by kernel_rfl) (by kernel_rfl) (fun _ _ _ h=>h) ?_;clear H a;intro a H
            replace hS:=hS.pk1
            refine Qh 14 H rfl rfl rfl (vs:=[.int .i64 a0.Id,.int .i64 0,.int .i64 0,.slice none 0 0,.slice none 0 0,.slice none 0 0,.slice (some ⟨dL,0,none⟩) a0.Events.toNat a0.Events.toNat,aK,.slice (some ⟨bR,0,none⟩) a0.Ports.length a0.Ports.length,.slice none 0 0]) rfl Zch (hS.blk 0 rfl) rfl (by simp [(((hS.own 1 rfl).slr rfl (fun _ _=>rfl))).one,(((hS.own 3 rfl).slr rfl (fun _ _=>rfl))).one,((hS.deepSl 2 rfl)).one]) (by kernel_rfl) (.inl (fun h=>absurd h (Nat.not_lt.2 dK))) ?_
            clear H;intro m3 hN fY hz;clear a;intro a H;replace hS:=hS.setBlk hN fY;clear hN hz;replace hW:=Nat.le_trans hW fY.size
            refine Xk (by kernel_rfl) ?_
            refine Za ?_
            obtain rfl:=Option.some.inj hm;replace hm:=aC;try dsimp only at hm
            replace hS:=hS.pk2
            replace hS:=hS.pk3
            replace hS:=hS.pk3
            replace hS:=hS.pk3
            replace hS:=hS.pk5
            replace hS:=hS.pk6
            replace hS:=hS.tk6
            exact Wb ((List.replicate a0.Events.toNat false),aD,(List.replicate a0.Ports.length (⟨([] : List ByteArray),0⟩ : GPort)),.slice (some ⟨dL,0,none⟩) a0.Events.toNat a0.Events.toNat,aK,.slice (some ⟨bR,0,none⟩) a0.Ports.length a0.Ports.length,i3) H ⟨rfl,rfl,rfl,trivial⟩ ⟨hm,hS⟩
        · skip
          refine Gn 13 H rfl Tz rfl ?_
          clear H;intro dM m4 hN fZ hs;clear a;intro a H
          have cB : aI.heap.size ≤ dM:=hs ▸ hW
          replace hS:=hS.newBlk hN fZ hs;clear hN hs
          replace hW:=Nat.le_trans hW fZ.size
          refine Zd5 4 11 (by kernel_rfl) ?_ ?_
          · skip
            refine Yp (e:=eF) (z0:=false) (L:=a0.Events.toNat) (C:=a0.Events.toNat) 4 H rfl Tryz.underlying30 el4 rfl (by show _=some (Value.int .i64 ((Int.toNat a0.Events : Nat) : Int));rw [Int.toNat_of_nonneg aA];rfl) (by show _=some (Value.int .i64 ((Int.toNat a0.Events : Nat) : Int));rw [Int.toNat_of_nonneg aA];rfl) (Nat.le_refl _) aE (by simp only [maxLen];omega) rfl ?_
            clear H;intro dN m5 hN gA hs;clear a;intro a H;replace hS:=hS.newOwn hN gA (by simp [Vd];omega);clear hN
            replace hW:=Nat.le_trans hW gA.size
            refine Xl 11 (by kernel_rfl) ?_
            refine Wc (L:=a0.Ports.length) (C:=a0.Ports.length) 11 H rfl Tryz.underlying31 Zbn rfl rfl (Nat.le_refl _) aG (by simp only [maxLen];omega) rfl ?_
            clear H;intro dO m6 hN gB hs;clear a;intro a H;replace hS:=hS.newOwn hN gB (by simp [Vd];omega);clear hN
            replace hS:=St.mkDeep0 (R:=Yo) (z0:=(⟨([] : List ByteArray),0⟩ : GPort)) (n:=a0.Ports.length) rfl (by simp) (fun w=>⟨_,rfl,SlR.nil _ _ _⟩) hS
            replace hW:=Nat.le_trans hW gB.size
            refine Zk 12 H rfl (Qd (cs:=[.int .i64 a0.Id,.int .i64 0,.int .i64 0,.slice none 0 0,.slice none 0 0,.slice none 0 0,.slice (some ⟨dN,0,none⟩) a0.Events.toNat a0.Events.toNat,aK,.slice (some ⟨dO,0,none⟩) a0.Ports.length a0.Ports.length,.slice none 0 0]) Tz Zeb Zec rfl ((Qa rfl rfl (by simp)).trans ((Qa (((hS.own 1 rfl).slr rfl (fun _ _=>rfl))).one rfl (by simp)).trans ((Qa (((hS.own 3 rfl).slr rfl (fun _ _=>rfl))).one rfl (by simp)).trans ((Qa ((hS.deepSl 0 rfl)).one rfl (by simp)).trans rfl))))) rfl (by kernel_rfl) (by kernel_rfl) (by kernel_rfl) (by kernel_rfl) (fun _ _ _ h=>h) ?_;clear H a;intro a H
            replace hS:=hS.pk2
            refine Qh 14 H rfl rfl rfl (vs:=[.int .i64 a0.Id,.int .i64 0,.int .i64 0,.slice none 0 0,.slice none 0 0,.slice none 0 0,.slice (some ⟨dN,0,none⟩) a0.Events.toNat a0.Events.toNat,aK,.slice (some ⟨dO,0,none⟩) a0.Ports.length a0.Ports.length,.slice none 0 0]) rfl Zch (hS.blk 0 rfl) rfl (by simp [(((hS.own 2 rfl).slr rfl (fun _ _=>rfl))).one,(((hS.own 3 rfl).slr rfl (fun _ _=>rfl))).one,((hS.deepSl 1 rfl)).one]) (by kernel_rfl) (.inl (fun h=>absurd h (Nat.not_lt.2 cB))) ?_
            clear H;intro m7 hN gC hz;clear a;intro a H;replace hS:=hS.setBlk hN gC;clear hN hz;replace hW:=Nat.le_trans hW gC.size
            refine Xk (by kernel_rfl) ?_
            refine Za ?_
            obtain rfl:=Option.some.inj hm;replace hm:=aC;try dsimp only at hm
            replace hS:=hS.pk1
            replace hS:=hS.pk3
            replace hS:=hS.pk3
            replace hS:=hS.pk3
            replace hS:=hS.pk5
            replace hS:=hS.pk6
            replace hS:=hS.tk6
            exact Wb ((List.replicate a0.Events.toNat false),aD,(List.replicate a0.Ports.length (⟨([] : List ByteArray),0⟩ : GPort)),.slice (some ⟨dN,0,none⟩) a0.Events.toNat a0.Events.toNat,aK,.slice (some ⟨dO,0,none⟩) a0.Ports.length a0.Ports.length,dM) H ⟨rfl,rfl,rfl,trivial⟩ ⟨hm,hS⟩
          · skip
            refine Wc (L:=a0.Ports.length) (C:=a0.Ports.length) 11 H rfl Tryz.underlying31 Zbn rfl rfl (Nat.le_refl _) aG (by simp only [maxLen];omega) rfl ?_
            clear H;intro dP m8 hN gD hs;clear a;intro a H;replace hS:=hS.newOwn hN gD (by simp [Vd];omega);clear hN
            replace hS:=St.mkDeep0 (R:=Yo) (z0:=(⟨([] : List ByteArray),0⟩ : GPort)) (n:=a0.Ports.length) rfl (by simp) (fun w=>⟨_,rfl,SlR.nil _ _ _⟩) hS
            replace hW:=Nat.le_trans hW gD.size
            refine Xl 4 (by kernel_rfl) ?_
            refine Yp (e:=eF) (z0:=false) (L:=a0.Events.toNat) (C:=a0.Events.toNat) 4 H rfl Tryz.underlying30 el4 rfl (by show _=some (Value.int .i64 ((Int.toNat a0.Events : Nat) : Int));rw [Int.toNat_of_nonneg aA];rfl) (by show _=some (Value.int .i64 ((Int.toNat a0.Events : Nat) : Int));rw [Int.toNat_of_nonneg aA];rfl) (Nat.le_refl _) aE (by simp only [maxLen];omega) rfl ?_
            clear H;intro dQ m9 hN gE hs;clear a;intro a H;replace hS:=hS.newOwn hN gE (by simp [Vd];omega);clear hN
            replace hW:=Nat.le_trans hW gE.size
            refine Zk 12 H rfl (Qd (cs:=[.int .i64 a0.Id,.int .i64 0,.int .i64 0,.slice none 0 0,.slice none 0 0,.slice none 0 0,.slice (some ⟨dQ,0,none⟩) a0.Events.toNat a0.Events.toNat,aK,.slice (some ⟨dP,0,none⟩) a0.Ports.length a0.Ports.length,.slice none 0 0]) Tz Zeb Zec rfl ((Qa rfl rfl (by simp)).trans ((Qa (((hS.own 0 rfl).slr rfl (fun _ _=>rfl))).one rfl (by simp)).trans ((Qa (((hS.own 3 rfl).slr rfl (fun _ _=>rfl))).one rfl (by simp)).trans ((Qa ((hS.deepSl 1 rfl)).one rfl (by simp)).trans rfl))))) rfl (by kernel_rfl) (by kernel_rfl) (by kernel_rfl) (by kernel_rfl) (fun _ _ _ h=>h) ?_;clear H a;intro a H
            replace hS:=hS.pk2
            refine Qh 14 H rfl rfl rfl (vs:=[.int .i64 a0.Id,.int .i64 0,.int .i64 0,.slice none 0 0,.slice none 0 0,.slice none 0 0,.slice (some ⟨dQ,0,none⟩) a0.Events.toNat a0.Events.toNat,aK,.slice (some ⟨dP,0,none⟩) a0.Ports.length a0.Ports.length,.slice none 0 0]) rfl Zch (hS.blk 0 rfl) rfl (by simp [(((hS.own 1 rfl).slr rfl (fun _ _=>rfl))).one,(((hS.own 3 rfl).slr rfl (fun _ _=>rfl))).one,((hS.deepSl 2 rfl)).one]) (by kernel_rfl) (.inl (fun h=>absurd h (Nat.not_lt.2 cB))) ?_
            clear H;intro nA hN gF hz;clear a;intro a H;replace hS:=hS.setBlk hN gF;clear hN hz;replace hW:=Nat.le_trans hW gF.size
            refine Xk (by kernel_rfl) ?_
            refine Za ?_
            obtain rfl:=Option.some.inj hm;replace hm:=aC;try dsimp only at hm
            replace hS:=hS.pk2
            replace hS:=hS.pk3
            replace hS:=hS.pk3
            replace hS:=hS.pk3
            replace hS:=hS.pk5
            replace hS:=hS.pk6
            replace hS:=hS.tk6
            exact Wb ((List.replicate a0.Events.toNat false),aD,(List.replicate a0.Ports.length (⟨([] : List ByteArray),0⟩ : GPort)),.slice (some ⟨dQ,0,none⟩) a0.Events.toNat a0.Events.toNat,aK,.slice (some ⟨dP,0,none⟩) a0.Ports.length a0.Ports.length,dM) H ⟨rfl,rfl,rfl,trivial⟩ ⟨hm,hS⟩
      · skip
        refine Wc (L:=a0.Ports.length) (C:=a0.Ports.length) 11 H rfl Tryz.underlying31 Zbn rfl rfl (Nat.le_refl _) aG (by simp only [maxLen];omega) rfl ?_
        clear H;intro aL nB hN gG hs;clear a;intro a H;replace hS:=hS.newOwn hN gG (by simp [Vd];omega);clear hN
        replace hS:=St.mkDeep0 (R:=Yo) (z0:=(⟨([] : List ByteArray),0⟩ : GPort)) (n:=a0.Ports.length) rfl (by simp) (fun w=>⟨_,rfl,SlR.nil _ _ _⟩) hS
        replace hW:=Nat.le_trans hW gG.size
        refine Zge 4 7 13 (by kernel_rfl) ?_ ?_ ?_
        · skip
          refine Yp (e:=eF) (z0:=false) (L:=a0.Events.toNat) (C:=a0.Events.toNat) 4 H rfl Tryz.underlying30 el4 rfl (by show _=some (Value.int .i64 ((Int.toNat a0.Events : Nat) : Int));rw [Int.toNat_of_nonneg aA];rfl) (by show _=some (Value.int .i64 ((Int.toNat a0.Events : Nat) : Int));rw [Int.toNat_of_nonneg aA];rfl) (Nat.le_refl _) aE (by simp only [maxLen];omega) rfl ?_
          clear H;intro bS nC hN gH hs;clear a;intro a H;replace hS:=hS.newOwn hN gH (by simp [Vd];omega);clear hN
          replace hW:=Nat.le_trans hW gH.size
          refine Zd5 7 13 (by kernel_rfl) ?_ ?_
          · skip
            refine Xr 7 H rfl rfl Zbo (Zw (A:=A) (aB.ext (Zn.mono _) hS.x) aF) rfl (fun v w hv=>.inl (ChgF.of_ext (by obtain⟨_,_,hE0⟩:=hv;exact hE0.x))) ?_
            clear H;intro dR nD hv;clear a;intro a H;obtain⟨_,rfl,gI⟩:=hv
            replace hS:=hS.new gI;simp only [List.cons_append,List.nil_append] at hS
            replace hW:=Nat.le_trans hW gI.x.size
            refine Zk 12 H rfl (Qd (cs:=[.int .i64 a0.Id,.int .i64 0,.int .i64 0,.slice none 0 0,.slice none 0 0,.slice none 0 0,.slice (some ⟨bS,0,none⟩) a0.Events.toNat a0.Events.toNat,dR,.slice (some ⟨aL,0,none⟩) a0.Ports.length a0.Ports.length,.slice none 0 0]) Tz Zeb Zec rfl ((Qa rfl rfl (by simp)).trans ((Qa (((hS.own 1 rfl).slr rfl (fun _ _=>rfl))).one rfl (by simp)).trans ((Qa (((hS.own 0 rfl).slr rfl (fun _ _=>rfl))).one rfl (by simp)).trans ((Qa ((hS.deepSl 2 rfl)).one rfl (by simp)).trans rfl))))) rfl (by kernel_rfl) (by kernel_rfl) (by kernel_rfl) (by kernel_rfl) (fun _ _ _ h=>h) ?_;clear H a;intro a H
            refine Zdi 13 H rfl Tz rfl (by kernel_rfl) ?_
            clear H;intro i4 nE hN gJ hs;clear a;intro a H
            have dS : aI.heap.size ≤ i4:=hs ▸ hW
            replace hS:=hS.newBlk hN gJ hs;clear hN hs
            replace hW:=Nat.le_trans hW gJ.size
            refine Qh 14 H rfl rfl rfl (vs:=[.int .i64 a0.Id,.int .i64 0,.int .i64 0,.slice none 0 0,.slice none 0 0,.slice none 0 0,.slice (some ⟨bS,0,none⟩) a0.Events.toNat a0.Events.toNat,dR,.slice (some ⟨aL,0,none⟩) a0.Ports.length a0.Ports.length,.slice none 0 0]) rfl Zch (hS.blk 0 rfl) rfl (by simp [(((hS.own 2 rfl).slr rfl (fun _ _=>rfl))).one,(((hS.own 1 rfl).slr rfl (fun _ _=>rfl))).one,((hS.deepSl 3 rfl)).one]) (by kernel_rfl) (.inl (fun h=>absurd h (Nat.not_lt.2 dS))) ?_
            clear H;intro nF hN gK hz;clear a;intro a H;replace hS:=hS.setBlk hN gK;clear hN hz;replace hW:=Nat.le_trans hW gK.size
            refine Xk (by kernel_rfl) ?_
            refine Za ?_
            obtain rfl:=Option.some.inj hm;replace hm:=aC;try dsimp only at hm
            replace hS:=hS.pk3
            replace hS:=hS.pk2
            replace hS:=hS.pk3
            replace hS:=hS.pk3
            replace hS:=hS.pk5
            replace hS:=hS.pk6
            replace hS:=hS.tk6
            exact Wb ((List.replicate a0.Events.toNat false),aD,(List.replicate a0.Ports.length (⟨([] : List ByteArray),0⟩ : GPort)),.slice (some ⟨bS,0,none⟩) a0.Events.toNat a0.Events.toNat,dR,.slice (some ⟨aL,0,none⟩) a0.Ports.length a0.Ports.length,i4) H ⟨rfl,rfl,rfl,trivial⟩ ⟨hm,hS⟩
          · skip
            refine Gn 13 H rfl Tz rfl ?_
            clear H;intro i5 nG hN gL hs;clear a;intro a H
            have dT : aI.heap.size ≤ i5:=hs ▸ hW
            replace hS:=hS.newBlk hN gL hs;clear hN hs
            replace hW:=Nat.le_trans hW gL.size
            refine Xl 7 (by kernel_rfl) ?_
            refine Xr 7 H rfl rfl Zbo (Zw (A:=A) (aB.ext (Zn.mono _) hS.x) aF) rfl (fun v w hv=>.inl (ChgF.of_ext (by obtain⟨_,_,hE0⟩:=hv;exact hE0.x))) ?_
            clear H;intro dU nH hv;clear a;intro a H;obtain⟨_,rfl,gM⟩:=hv
            replace hS:=hS.new gM;simp only [List.cons_append,List.nil_append] at hS
            replace hW:=Nat.le_trans hW gM.x.size
            refine Zk 12 H rfl (Qd (cs:=[.int .i64 a0.Id,.int .i64 0,.int .i64 0,.slice none 0 0,.slice none 0 0,.slice none 0 0,.slice (some ⟨bS,0,none⟩) a0.Events.toNat a0.Events.toNat,dU,.slice (some ⟨aL,0,none⟩) a0.Ports.length a0.Ports.length,.slice none 0 0]) Tz Zeb Zec rfl ((Qa rfl rfl (by simp)).trans ((Qa (((hS.own 2 rfl).slr rfl (fun _ _=>rfl))).one rfl (by simp)).trans ((Qa (((hS.own 0 rfl).slr rfl (fun _ _=>rfl))).one rfl (by simp)).trans ((Qa ((hS.deepSl 3 rfl)).one rfl (by simp)).trans rfl))))) rfl (by kernel_rfl) (by kernel_rfl) (by kernel_rfl) (by kernel_rfl) (fun _ _ _ h=>h) ?_;clear H a;intro a H
            replace hS:=hS.pk1
            refine Qh 14 H rfl rfl rfl (vs:=[.int .i64 a0.Id,.int .i64 0,.int .i64 0,.slice none 0 0,.slice none 0 0,.slice none 0 0,.slice (some ⟨bS,0,none⟩) a0.Events.toNat a0.Events.toNat,dU,.slice (some ⟨aL,0,none⟩) a0.Ports.length a0.Ports.length,.slice none 0 0]) rfl Zch (hS.blk 0 rfl) rfl (by simp [(((hS.own 2 rfl).slr rfl (fun _ _=>rfl))).one,(((hS.own 1 rfl).slr rfl (fun _ _=>rfl))).one,((hS.deepSl 3 rfl)).one]) (by kernel_rfl) (.inl (fun h=>absurd h (Nat.not_lt.2 dT))) ?_
            clear H;intro nI hN gN hz;clear a;intro a H;replace hS:=hS.setBlk hN gN;clear hN hz;replace hW:=Nat.le_trans hW gN.size
            refine Xk (by kernel_rfl) ?_
            refine Za ?_
            obtain rfl:=Option.some.inj hm;replace hm:=aC;try dsimp only at hm
            replace hS:=hS.pk3
            replace hS:=hS.pk2
            replace hS:=hS.pk3
            replace hS:=hS.pk3
            replace hS:=hS.pk5
            replace hS:=hS.pk6
            replace hS:=hS.tk6
            exact Wb ((List.replicate a0.Events.toNat false),aD,(List.replicate a0.Ports.length (⟨([] : List ByteArray),0⟩ : GPort)),.slice (some ⟨bS,0,none⟩) a0.Events.toNat a0.Events.toNat,dU,.slice (some ⟨aL,0,none⟩) a0.Ports.length a0.Ports.length,i5) H ⟨rfl,rfl,rfl,trivial⟩ ⟨hm,hS⟩
        · skip
          refine Xr 7 H rfl rfl Zbo (Zw (A:=A) (aB.ext (Zn.mono _) hS.x) aF) rfl (fun v w hv=>.inl (ChgF.of_ext (by obtain⟨_,_,hE0⟩:=hv;exact hE0.x))) ?_
          clear H;intro bT nJ hv;clear a;intro a H;obtain⟨_,rfl,gO⟩:=hv
          replace hS:=hS.new gO;simp only [List.cons_append,List.nil_append] at hS
          replace hW:=Nat.le_trans hW gO.x.size
          refine Zd5 4 13 (by kernel_rfl) ?_ ?_
          · skip
            refine Yp (e:=eF) (z0:=false) (L:=a0.Events.toNat) (C:=a0.Events.toNat) 4 H rfl Tryz.underlying30 el4 rfl (by show _=some (Value.int .i64 ((Int.toNat a0.Events : Nat) : Int));rw [Int.toNat_of_nonneg aA];rfl) (by show _=some (Value.int .i64 ((Int.toNat a0.Events : Nat) : Int));rw [Int.toNat_of_nonneg aA];rfl) (Nat.le_refl _) aE (by simp only [maxLen];omega) rfl ?_
            clear H;intro dV nK hN gP hs;clear a;intro a H;replace hS:=hS.newOwn hN gP (by simp [Vd];omega);clear hN
            replace hW:=Nat.le_trans hW gP.size
            refine Zk 12 H rfl (Qd (cs:=[.int .i64 a0.Id,.int .i64 0,.int .i64 0,.slice none 0 0,.slice none 0 0,.slice none 0 0,.slice (some ⟨dV,0,none⟩) a0.Events.toNat a0.Events.toNat,bT,.slice (some ⟨aL,0,none⟩) a0.Ports.length a0.Ports.length,.slice none 0 0]) Tz Zeb Zec rfl ((Qa rfl rfl (by simp)).trans ((Qa (((hS.own 0 rfl).slr rfl (fun _ _=>rfl))).one rfl (by simp)).trans ((Qa (((hS.own 1 rfl).slr rfl (fun _ _=>rfl))).one rfl (by simp)).trans ((Qa ((hS.deepSl 2 rfl)).one rfl (by simp)).trans rfl))))) rfl (by kernel_rfl) (by kernel_rfl) (by kernel_rfl) (by kernel_rfl) (fun _ _ _ h=>h) ?_;clear H a;intro a H
            refine Zdi 13 H rfl Tz rfl (by kernel_rfl) ?_
            clear H;intro i6 nL hN gQ hs;clear a;intro a H
            have dW : aI.heap.size ≤ i6:=hs ▸ hW
            replace hS:=hS.newBlk hN gQ hs;clear hN hs
            replace hW:=Nat.le_trans hW gQ.size
            refine Qh 14 H rfl rfl rfl (vs:=[.int .i64 a0.Id,.int .i64 0,.int .i64 0,.slice none 0 0,.slice none 0 0,.slice none 0 0,.slice (some ⟨dV,0,none⟩) a0.Events.toNat a0.Events.toNat,bT,.slice (some ⟨aL,0,none⟩) a0.Ports.length a0.Ports.length,.slice none 0 0]) rfl Zch (hS.blk 0 rfl) rfl (by simp [(((hS.own 1 rfl).slr rfl (fun _ _=>rfl))).one,(((hS.own 2 rfl).slr rfl (fun _ _=>rfl))).one,((hS.deepSl 3 rfl)).one]) (by kernel_rfl) (.inl (fun h=>absurd h (Nat.not_lt.2 dW))) ?_
            clear H;intro nM hN gR hz;clear a;intro a H;replace hS:=hS.setBlk hN gR;clear hN hz;replace hW:=Nat.le_trans hW gR.size
            refine Xk (by kernel_rfl) ?_
            refine Za ?_
            obtain rfl:=Option.some.inj hm;replace hm:=aC;try dsimp only at hm
            replace hS:=hS.pk3
            replace hS:=hS.pk3
            replace hS:=hS.pk3
            replace hS:=hS.pk3
            replace hS:=hS.pk5
            replace hS:=hS.pk6
            replace hS:=hS.tk6
            exact Wb ((List.replicate a0.Events.toNat false),aD,(List.replicate a0.Ports.length (⟨([] : List ByteArray),0⟩ : GPort)),.slice (some ⟨dV,0,none⟩) a0.Events.toNat a0.Events.toNat,bT,.slice (some ⟨aL,0,none⟩) a0.Ports.length a0.Ports.length,i6) H ⟨rfl,rfl,rfl,trivial⟩ ⟨hm,hS⟩
          · skip
            refine Gn 13 H rfl Tz rfl ?_
            clear H;intro i7 nN hN gS hs;clear a;intro a H
            have dX : aI.heap.size ≤ i7:=hs ▸ hW
            replace hS:=hS.newBlk hN gS hs;clear hN hs
            replace hW:=Nat.le_trans hW gS.size
            refine Xl 4 (by kernel_rfl) ?_
            refine Yp (e:=eF) (z0:=false) (L:=a0.Events.toNat) (C:=a0.Events.toNat) 4 H rfl Tryz.underlying30 el4 rfl (by show _=some (Value.int .i64 ((Int.toNat a0.Events : Nat) : Int));rw [Int.toNat_of_nonneg aA];rfl) (by show _=some (Value.int .i64 ((Int.toNat a0.Events : Nat) : Int));rw [Int.toNat_of_nonneg aA];rfl) (Nat.le_refl _) aE (by simp only [maxLen];omega) rfl ?_
            clear H;intro dY nO hN gT hs;clear a;intro a H;replace hS:=hS.newOwn hN gT (by simp [Vd];omega);clear hN
            replace hW:=Nat.le_trans hW gT.size
            refine Zk 12 H rfl (Qd (cs:=[.int .i64 a0.Id,.int .i64 0,.int .i64 0,.slice none 0 0,.slice none 0 0,.slice none 0 0,.slice (some ⟨dY,0,none⟩) a0.Events.toNat a0.Events.toNat,bT,.slice (some ⟨aL,0,none⟩) a0.Ports.length a0.Ports.length,.slice none 0 0]) Tz Zeb Zec rfl ((Qa rfl rfl (by simp)).trans ((Qa (((hS.own 0 rfl).slr rfl (fun _ _=>rfl))).one rfl (by simp)).trans ((Qa (((hS.own 2 rfl).slr rfl (fun _ _=>rfl))).one rfl (by simp)).trans ((Qa ((hS.deepSl 3 rfl)).one rfl (by simp)).trans rfl))))) rfl (by kernel_rfl) (by kernel_rfl) (by kernel_rfl) (by kernel_rfl) (fun _ _ _ h=>h) ?_;clear H a;intro a H
            replace hS:=hS.pk1
            refine Qh 14 H rfl rfl rfl (vs:=[.int .i64 a0.Id,.int .i64 0,.int .i64 0,.slice none 0 0,.slice none 0 0,.slice none 0 0,.slice (some ⟨dY,0,none⟩) a0.Events.toNat a0.Events.toNat,bT,.slice (some ⟨aL,0,none⟩) a0.Ports.length a0.Ports.length,.slice none 0 0]) rfl Zch (hS.blk 0 rfl) rfl (by simp [(((hS.own 1 rfl).slr rfl (fun _ _=>rfl))).one,(((hS.own 2 rfl).slr rfl (fun _ _=>rfl))).one,((hS.deepSl 3 rfl)).one]) (by kernel_rfl) (.inl (fun h=>absurd h (Nat.not_lt.2 dX))) ?_
            clear H;intro nP hN gU hz;clear a;intro a H;replace hS:=hS.setBlk hN gU;clear hN hz;replace hW:=Nat.le_trans hW gU.size
            refine Xk (by kernel_rfl) ?_
            refine Za ?_
            obtain rfl:=Option.some.inj hm;replace hm:=aC;try dsimp only at hm
            replace hS:=hS.pk3
            replace hS:=hS.pk3
            replace hS:=hS.pk3
            replace hS:=hS.pk3
            replace hS:=hS.pk5
            replace hS:=hS.pk6
            replace hS:=hS.tk6
            exact Wb ((List.replicate a0.Events.toNat false),aD,(List.replicate a0.Ports.length (⟨([] : List ByteArray),0⟩ : GPort)),.slice (some ⟨dY,0,none⟩) a0.Events.toNat a0.Events.toNat,bT,.slice (some ⟨aL,0,none⟩) a0.Ports.length a0.Ports.length,i7) H ⟨rfl,rfl,rfl,trivial⟩ ⟨hm,hS⟩
        · skip
          refine Gn 13 H rfl Tz rfl ?_
          clear H;intro dZ nQ hN gV hs;clear a;intro a H
          have cC : aI.heap.size ≤ dZ:=hs ▸ hW
          replace hS:=hS.newBlk hN gV hs;clear hN hs
          replace hW:=Nat.le_trans hW gV.size
          refine Zd5 4 7 (by kernel_rfl) ?_ ?_
          · skip
            refine Yp (e:=eF) (z0:=false) (L:=a0.Events.toNat) (C:=a0.Events.toNat) 4 H rfl Tryz.underlying30 el4 rfl (by show _=some (Value.int .i64 ((Int.toNat a0.Events : Nat) : Int));rw [Int.toNat_of_nonneg aA];rfl) (by show _=some (Value.int .i64 ((Int.toNat a0.Events : Nat) : Int));rw [Int.toNat_of_nonneg aA];rfl) (Nat.le_refl _) aE (by simp only [maxLen];omega) rfl ?_
            clear H;intro d5 nR hN gW hs;clear a;intro a H;replace hS:=hS.newOwn hN gW (by simp [Vd];omega);clear hN
            replace hW:=Nat.le_trans hW gW.size
            refine Xl 7 (by kernel_rfl) ?_
            refine Xr 7 H rfl rfl Zbo (Zw (A:=A) (aB.ext (Zn.mono _) hS.x) aF) rfl (fun v w hv=>.inl (ChgF.of_ext (by obtain⟨_,_,hE0⟩:=hv;exact hE0.x))) ?_
            clear H;intro d6 nS hv;clear a;intro a H;obtain⟨_,rfl,gX⟩:=hv
            replace hS:=hS.new gX;simp only [List.cons_append,List.nil_append] at hS
            replace hW:=Nat.le_trans hW gX.x.size
            refine Zk 12 H rfl (Qd (cs:=[.int .i64 a0.Id,.int .i64 0,.int .i64 0,.slice none 0 0,.slice none 0 0,.slice none 0 0,.slice (some ⟨d5,0,none⟩) a0.Events.toNat a0.Events.toNat,d6,.slice (some ⟨aL,0,none⟩) a0.Ports.length a0.Ports.length,.slice none 0 0]) Tz Zeb Zec rfl ((Qa rfl rfl (by simp)).trans ((Qa (((hS.own 1 rfl).slr rfl (fun _ _=>rfl))).one rfl (by simp)).trans ((Qa (((hS.own 0 rfl).slr rfl (fun _ _=>rfl))).one rfl (by simp)).trans ((Qa ((hS.deepSl 3 rfl)).one rfl (by simp)).trans rfl))))) rfl (by kernel_rfl) (by kernel_rfl) (by kernel_rfl) (by kernel_rfl) (fun _ _ _ h=>h) ?_;clear H a;intro a H
            replace hS:=hS.pk2
            refine Qh 14 H rfl rfl rfl (vs:=[.int .i64 a0.Id,.int .i64 0,.int .i64 0,.slice none 0 0,.slice none 0 0,.slice none 0 0,.slice (some ⟨d5,0,none⟩) a0.Events.toNat a0.Events.toNat,d6,.slice (some ⟨aL,0,none⟩) a0.Ports.length a0.Ports.length,.slice none 0 0]) rfl Zch (hS.blk 0 rfl) rfl (by simp [(((hS.own 2 rfl).slr rfl (fun _ _=>rfl))).one,(((hS.own 1 rfl).slr rfl (fun _ _=>rfl))).one,((hS.deepSl 3 rfl)).one]) (by kernel_rfl) (.inl (fun h=>absurd h (Nat.not_lt.2 cC))) ?_
            clear H;intro nT hN gY hz;clear a;intro a H;replace hS:=hS.setBlk hN gY;clear hN hz;replace hW:=Nat.le_trans hW gY.size
            refine Xk (by kernel_rfl) ?_
            refine Za ?_
            obtain rfl:=Option.some.inj hm;replace hm:=aC;try dsimp only at hm
            replace hS:=hS.pk3
            replace hS:=hS.pk2
            replace hS:=hS.pk3
            replace hS:=hS.pk3
            replace hS:=hS.pk5
            replace hS:=hS.pk6
            replace hS:=hS.tk6
            exact Wb ((List.replicate a0.Events.toNat false),aD,(List.replicate a0.Ports.length (⟨([] : List ByteArray),0⟩ : GPort)),.slice (some ⟨d5,0,none⟩) a0.Events.toNat a0.Events.toNat,d6,.slice (some ⟨aL,0,none⟩) a0.Ports.length a0.Ports.length,dZ) H ⟨rfl,rfl,rfl,trivial⟩ ⟨hm,hS⟩
          · skip
            refine Xr 7 H rfl rfl Zbo (Zw (A:=A) (aB.ext (Zn.mono _) hS.x) aF) rfl (fun v w hv=>.inl (ChgF.of_ext (by obtain⟨_,_,hE0⟩:=hv;exact hE0.x))) ?_
            clear H;intro d7 nU hv;clear a;intro a H;obtain⟨_,rfl,gZ⟩:=hv
            replace hS:=hS.new gZ;simp only [List.cons_append,List.nil_append] at hS
            replace hW:=Nat.le_trans hW gZ.x.size
            refine Xl 4 (by kernel_rfl) ?_
            refine Yp (e:=eF) (z0:=false) (L:=a0.Events.toNat) (C:=a0.Events.toNat) 4 H rfl Tryz.underlying30 el4 rfl (by show _=some (Value.int .i64 ((Int.toNat a0.Events : Nat) : Int));rw [Int.toNat_of_nonneg aA];rfl) (by show _=some (Value.int .i64 ((Int.toNat a0.Events : Nat) : Int));rw [Int.toNat_of_nonneg aA];rfl) (Nat.le_refl _) aE (by simp only [maxLen];omega) rfl ?_
            clear H;intro d8 nV hN g6 hs;clear a;intro a H;replace hS:=hS.newOwn hN g6 (by simp [Vd];omega);clear hN
            replace hW:=Nat.le_trans hW g6.size
            refine Zk 12 H rfl (Qd (cs:=[.int .i64 a0.Id,.int .i64 0,.int .i64 0,.slice none 0 0,.slice none 0 0,.slice none 0 0,.slice (some ⟨d8,0,none⟩) a0.Events.toNat a0.Events.toNat,d7,.slice (some ⟨aL,0,none⟩) a0.Ports.length a0.Ports.length,.slice none 0 0]) Tz Zeb Zec rfl ((Qa rfl rfl (by simp)).trans ((Qa (((hS.own 0 rfl).slr rfl (fun _ _=>rfl))).one rfl (by simp)).trans ((Qa (((hS.own 1 rfl).slr rfl (fun _ _=>rfl))).one rfl (by simp)).trans ((Qa ((hS.deepSl 3 rfl)).one rfl (by simp)).trans rfl))))) rfl (by kernel_rfl) (by kernel_rfl) (by kernel_rfl) (by kernel_rfl) (fun _ _ _ h=>h) ?_;clear H a;intro a H
            replace hS:=hS.pk2
            refine Qh 14 H rfl rfl rfl (vs:=[.int .i64 a0.Id,.int .i64 0,.int .i64 0,.slice none 0 0,.slice none 0 0,.slice none 0 0,.slice (some ⟨d8,0,none⟩) a0.Events.toNat a0.Events.toNat,d7,.slice (some ⟨aL,0,none⟩) a0.Ports.length a0.Ports.length,.slice none 0 0]) rfl Zch (hS.blk 0 rfl) rfl (by simp [(((hS.own 1 rfl).slr rfl (fun _ _=>rfl))).one,(((hS.own 2 rfl).slr rfl (fun _ _=>rfl))).one,((hS.deepSl 3 rfl)).one]) (by kernel_rfl) (.inl (fun h=>absurd h (Nat.not_lt.2 cC))) ?_
            clear H;intro nW hN g7 hz;clear a;intro a H;replace hS:=hS.setBlk hN g7;clear hN hz;replace hW:=Nat.le_trans hW g7.size
            refine Xk (by kernel_rfl) ?_
            refine Za ?_
            obtain rfl:=Option.some.inj hm;replace hm:=aC;try dsimp only at hm
            replace hS:=hS.pk3
            replace hS:=hS.pk3
            replace hS:=hS.pk3
            replace hS:=hS.pk3
            replace hS:=hS.pk5
            replace hS:=hS.pk6
            replace hS:=hS.tk6
            exact Wb ((List.replicate a0.Events.toNat false),aD,(List.replicate a0.Ports.length (⟨([] : List ByteArray),0⟩ : GPort)),.slice (some ⟨d8,0,none⟩) a0.Events.toNat a0.Events.toNat,d7,.slice (some ⟨aL,0,none⟩) a0.Ports.length a0.Ports.length,dZ) H ⟨rfl,rfl,rfl,trivial⟩ ⟨hm,hS⟩
      · skip
        refine Gn 13 H rfl Tz rfl ?_
        clear H;intro bG nX hN g8 hs;clear a;intro a H
        have aO : aI.heap.size ≤ bG:=hs ▸ hW
        replace hS:=hS.newBlk hN g8 hs;clear hN hs
        replace hW:=Nat.le_trans hW g8.size
        refine Zge 4 7 11 (by kernel_rfl) ?_ ?_ ?_
        · skip
          refine Yp (e:=eF) (z0:=false) (L:=a0.Events.toNat) (C:=a0.Events.toNat) 4 H rfl Tryz.underlying30 el4 rfl (by show _=some (Value.int .i64 ((Int.toNat a0.Events : Nat) : Int));rw [Int.toNat_of_nonneg aA];rfl) (by show _=some (Value.int .i64 ((Int.toNat a0.Events : Nat) : Int));rw [Int.toNat_of_nonneg aA];rfl) (Nat.le_refl _) aE (by simp only [maxLen];omega) rfl ?_
          clear H;intro bU nY hN g9 hs;clear a;intro a H;replace hS:=hS.newOwn hN g9 (by simp [Vd];omega);clear hN
          replace hW:=Nat.le_trans hW g9.size
          refine Zd5 7 11 (by kernel_rfl) ?_ ?_
          · skip
            refine Xr 7 H rfl rfl Zbo (Zw (A:=A) (aB.ext (Zn.mono _) hS.x) aF) rfl (fun v w hv=>.inl (ChgF.of_ext (by obtain⟨_,_,hE0⟩:=hv;exact hE0.x))) ?_
            clear H;intro d9 nZ hv;clear a;intro a H;obtain⟨_,rfl,hJ⟩:=hv
            replace hS:=hS.new hJ;simp only [List.cons_append,List.nil_append] at hS
            replace hW:=Nat.le_trans hW hJ.x.size
            refine Xl 11 (by kernel_rfl) ?_
            refine Wc (L:=a0.Ports.length) (C:=a0.Ports.length) 11 H rfl Tryz.underlying31 Zbn rfl rfl (Nat.le_refl _) aG (by simp only [maxLen];omega) rfl ?_
            clear H;intro eA n6 hN hM hs;clear a;intro a H;replace hS:=hS.newOwn hN hM (by simp [Vd];omega);clear hN
            replace hS:=St.mkDeep0 (R:=Yo) (z0:=(⟨([] : List ByteArray),0⟩ : GPort)) (n:=a0.Ports.length) rfl (by simp) (fun w=>⟨_,rfl,SlR.nil _ _ _⟩) hS
            replace hW:=Nat.le_trans hW hM.size
            refine Zk 12 H rfl (Qd (cs:=[.int .i64 a0.Id,.int .i64 0,.int .i64 0,.slice none 0 0,.slice none 0 0,.slice none 0 0,.slice (some ⟨bU,0,none⟩) a0.Events.toNat a0.Events.toNat,d9,.slice (some ⟨eA,0,none⟩) a0.Ports.length a0.Ports.length,.slice none 0 0]) Tz Zeb Zec rfl ((Qa rfl rfl (by simp)).trans ((Qa (((hS.own 2 rfl).slr rfl (fun _ _=>rfl))).one rfl (by simp)).trans ((Qa (((hS.own 1 rfl).slr rfl (fun _ _=>rfl))).one rfl (by simp)).trans ((Qa ((hS.deepSl 0 rfl)).one rfl (by simp)).trans rfl))))) rfl (by kernel_rfl) (by kernel_rfl) (by kernel_rfl) (by kernel_rfl) (fun _ _ _ h=>h) ?_;clear H a;intro a H
            replace hS:=hS.pk3
            refine Qh 14 H rfl rfl rfl (vs:=[.int .i64 a0.Id,.int .i64 0,.int .i64 0,.slice none 0 0,.slice none 0 0,.slice none 0 0,.slice (some ⟨bU,0,none⟩) a0.Events.toNat a0.Events.toNat,d9,.slice (some ⟨eA,0,none⟩) a0.Ports.length a0.Ports.length,.slice none 0 0]) rfl Zch (hS.blk 0 rfl) rfl (by simp [(((hS.own 3 rfl).slr rfl (fun _ _=>rfl))).one,(((hS.own 2 rfl).slr rfl (fun _ _=>rfl))).one,((hS.deepSl 1 rfl)).one]) (by kernel_rfl) (.inl (fun h=>absurd h (Nat.not_lt.2 aO))) ?_
            clear H;intro n7 hN hU hz;clear a;intro a H;replace hS:=hS.setBlk hN hU;clear hN hz;replace hW:=Nat.le_trans hW hU.size
            refine Xk (by kernel_rfl) ?_
            refine Za ?_
            obtain rfl:=Option.some.inj hm;replace hm:=aC;try dsimp only at hm
            replace hS:=hS.pk1
            replace hS:=hS.pk2
            replace hS:=hS.pk3
            replace hS:=hS.pk3
            replace hS:=hS.pk5
            replace hS:=hS.pk6
            replace hS:=hS.tk6
            exact Wb ((List.replicate a0.Events.toNat false),aD,(List.replicate a0.Ports.length (⟨([] : List ByteArray),0⟩ : GPort)),.slice (some ⟨bU,0,none⟩) a0.Events.toNat a0.Events.toNat,d9,.slice (some ⟨eA,0,none⟩) a0.Ports.length a0.Ports.length,bG) H ⟨rfl,rfl,rfl,trivial⟩ ⟨hm,hS⟩
          · skip
            refine Wc (L:=a0.Ports.length) (C:=a0.Ports.length) 11 H rfl Tryz.underlying31 Zbn rfl rfl (Nat.le_refl _) aG (by simp only [maxLen];omega) rfl ?_
            clear H;intro eC n8 hN hY hs;clear a;intro a H;replace hS:=hS.newOwn hN hY (by simp [Vd];omega);clear hN
            replace hS:=St.mkDeep0 (R:=Yo) (z0:=(⟨([] : List ByteArray),0⟩ : GPort)) (n:=a0.Ports.length) rfl (by simp) (fun w=>⟨_,rfl,SlR.nil _ _ _⟩) hS
            replace hW:=Nat.le_trans hW hY.size
            refine Xl 7 (by kernel_rfl) ?_
            refine Xr 7 H rfl rfl Zbo (Zw (A:=A) (aB.ext (Zn.mono _) hS.x) aF) rfl (fun v w hv=>.inl (ChgF.of_ext (by obtain⟨_,_,hE0⟩:=hv;exact hE0.x))) ?_
            clear H;intro eD n9 hv;clear a;intro a H;obtain⟨_,rfl,hZ⟩:=hv
            replace hS:=hS.new hZ;simp only [List.cons_append,List.nil_append] at hS
            replace hW:=Nat.le_trans hW hZ.x.size
            refine Zk 12 H rfl (Qd (cs:=[.int .i64 a0.Id,.int .i64 0,.int .i64 0,.slice none 0 0,.slice none 0 0,.slice none 0 0,.slice (some ⟨bU,0,none⟩) a0.Events.toNat a0.Events.toNat,eD,.slice (some ⟨eC,0,none⟩) a0.Ports.length a0.Ports.length,.slice none 0 0]) Tz Zeb Zec rfl ((Qa rfl rfl (by simp)).trans ((Qa (((hS.own 2 rfl).slr rfl (fun _ _=>rfl))).one rfl (by simp)).trans ((Qa (((hS.own 0 rfl).slr rfl (fun _ _=>rfl))).one rfl (by simp)).trans ((Qa ((hS.deepSl 1 rfl)).one rfl (by simp)).trans rfl))))) rfl (by kernel_rfl) (by kernel_rfl) (by kernel_rfl) (by kernel_rfl) (fun _ _ _ h=>h) ?_;clear H a;intro a H
            replace hS:=hS.pk3
            refine Qh 14 H rfl rfl rfl (vs:=[.int .i64 a0.Id,.int .i64 0,.int .i64 0,.slice none 0 0,.slice none 0 0,.slice none 0 0,.slice (some ⟨bU,0,none⟩) a0.Events.toNat a0.Events.toNat,eD,.slice (some ⟨eC,0,none⟩) a0.Ports.length a0.Ports.length,.slice none 0 0]) rfl Zch (hS.blk 0 rfl) rfl (by simp [(((hS.own 3 rfl).slr rfl (fun _ _=>rfl))).one,(((hS.own 1 rfl).slr rfl (fun _ _=>rfl))).one,((hS.deepSl 2 rfl)).one]) (by kernel_rfl) (.inl (fun h=>absurd h (Nat.not_lt.2 aO))) ?_
            clear H;intro oA hN iA hz;clear a;intro a H;replace hS:=hS.setBlk hN iA;clear hN hz;replace hW:=Nat.le_trans hW iA.size
            refine Xk (by kernel_rfl) ?_
            refine Za ?_
            obtain rfl:=Option.some.inj hm;replace hm:=aC;try dsimp only at hm
            replace hS:=hS.pk2
            replace hS:=hS.pk2
            replace hS:=hS.pk3
            replace hS:=hS.pk3
            replace hS:=hS.pk5
            replace hS:=hS.pk6
            replace hS:=hS.tk6
            exact Wb ((List.replicate a0.Events.toNat false),aD,(List.replicate a0.Ports.length (⟨([] : List ByteArray),0⟩ : GPort)),.slice (some ⟨bU,0,none⟩) a0.Events.toNat a0.Events.toNat,eD,.slice (some ⟨eC,0,none⟩) a0.Ports.length a0.Ports.length,bG) H ⟨rfl,rfl,rfl,trivial⟩ ⟨hm,hS⟩
        · skip
          refine Xr 7 H rfl rfl Zbo (Zw (A:=A) (aB.ext (Zn.mono _) hS.x) aF) rfl (fun v w hv=>.inl (ChgF.of_ext (by obtain⟨_,_,hE0⟩:=hv;exact hE0.x))) ?_
          clear H;intro bV oB hv;clear a;intro a H;obtain⟨_,rfl,iB⟩:=hv
          replace hS:=hS.new iB;simp only [List.cons_append,List.nil_append] at hS
          replace hW:=Nat.le_trans hW iB.x.size
          refine Zd5 4 11 (by kernel_rfl) ?_ ?_
          · skip
            refine Yp (e:=eF) (z0:=false) (L:=a0.Events.toNat) (C:=a0.Events.toNat) 4 H rfl Tryz.underlying30 el4 rfl (by show _=some (Value.int .i64 ((Int.toNat a0.Events : Nat) : Int));rw [Int.toNat_of_nonneg aA];rfl) (by show _=some (Value.int .i64 ((Int.toNat a0.Events : Nat) : Int));rw [Int.toNat_of_nonneg aA];rfl) (Nat.le_refl _) aE (by simp only [maxLen];omega) rfl ?_
            clear H;intro eE oC hN iC hs;clear a;intro a H;replace hS:=hS.newOwn hN iC (by simp [Vd];omega);clear hN
            replace hW:=Nat.le_trans hW iC.size
            refine Xl 11 (by kernel_rfl) ?_
            refine Wc (L:=a0.Ports.length) (C:=a0.Ports.length) 11 H rfl Tryz.underlying31 Zbn rfl rfl (Nat.le_refl _) aG (by simp only [maxLen];omega) rfl ?_
            clear H;intro eG oD hN iD hs;clear a;intro a H;replace hS:=hS.newOwn hN iD (by simp [Vd];omega);clear hN
            replace hS:=St.mkDeep0 (R:=Yo) (z0:=(⟨([] : List ByteArray),0⟩ : GPort)) (n:=a0.Ports.length) rfl (by simp) (fun w=>⟨_,rfl,SlR.nil _ _ _⟩) hS
            replace hW:=Nat.le_trans hW iD.size
            refine Zk 12 H rfl (Qd (cs:=[.int .i64 a0.Id,.int .i64 0,.int .i64 0,.slice none 0 0,.slice none 0 0,.slice none 0 0,.slice (some ⟨eE,0,none⟩) a0.Events.toNat a0.Events.toNat,bV,.slice (some ⟨eG,0,none⟩) a0.Ports.length a0.Ports.length,.slice none 0 0]) Tz Zeb Zec rfl ((Qa rfl rfl (by simp)).trans ((Qa (((hS.own 1 rfl).slr rfl (fun _ _=>rfl))).one rfl (by simp)).trans ((Qa (((hS.own 2 rfl).slr rfl (fun _ _=>rfl))).one rfl (by simp)).trans ((Qa ((hS.deepSl 0 rfl)).one rfl (by simp)).trans rfl))))) rfl (by kernel_rfl) (by kernel_rfl) (by kernel_rfl) (by kernel_rfl) (fun _ _ _ h=>h) ?_;clear H a;intro a H
            replace hS:=hS.pk3
            refine Qh 14 H rfl rfl rfl (vs:=[.int .i64 a0.Id,.int .i64 0,.int .i64 0,.slice none 0 0,.slice none 0 0,.slice none 0 0,.slice (some ⟨eE,0,none⟩) a0.Events.toNat a0.Events.toNat,bV,.slice (some ⟨eG,0,none⟩) a0.Ports.length a0.Ports.length,.slice none 0 0]) rfl Zch (hS.blk 0 rfl) rfl (by simp [(((hS.own 2 rfl).slr rfl (fun _ _=>rfl))).one,(((hS.own 3 rfl).slr rfl (fun _ _=>rfl))).one,((hS.deepSl 1 rfl)).one]) (by kernel_rfl) (.inl (fun h=>absurd h (Nat.not_lt.2 aO))) ?_
            clear H;intro oE hN iE hz;clear a;intro a H;replace hS:=hS.setBlk hN iE;clear hN hz;replace hW:=Nat.le_trans hW iE.size
            refine Xk (by kernel_rfl) ?_
            refine Za ?_
            obtain rfl:=Option.some.inj hm;replace hm:=aC;try dsimp only at hm
            replace hS:=hS.pk1
            replace hS:=hS.pk3
            replace hS:=hS.pk3
            replace hS:=hS.pk3
            replace hS:=hS.pk5
            replace hS:=hS.pk6
            replace hS:=hS.tk6
            exact Wb ((List.replicate a0.Events.toNat false),aD,(List.replicate a0.Ports.length (⟨([] : List ByteArray),0⟩ : GPort)),.slice (some ⟨eE,0,none⟩) a0.Events.toNat a0.Events.toNat,bV,.slice (some ⟨eG,0,none⟩) a0.Ports.length a0.Ports.length,bG) H ⟨rfl,rfl,rfl,trivial⟩ ⟨hm,hS⟩
          · skip
            refine Wc (L:=a0.Ports.length) (C:=a0.Ports.length) 11 H rfl Tryz.underlying31 Zbn rfl rfl (Nat.le_refl _) aG (by simp only [maxLen];omega) rfl ?_
            clear H;intro eH oF hN iF hs;clear a;intro a H;replace hS:=hS.newOwn hN iF (by simp [Vd];omega);clear hN
            replace hS:=St.mkDeep0 (R:=Yo) (z0:=(⟨([] : List ByteArray),0⟩ : GPort)) (n:=a0.Ports.length) rfl (by simp) (fun w=>⟨_,rfl,SlR.nil _ _ _⟩) hS
            replace hW:=Nat.le_trans hW iF.size
            refine Xl 4 (by kernel_rfl) ?_
            refine Yp (e:=eF) (z0:=false) (L:=a0.Events.toNat) (C:=a0.Events.toNat) 4 H rfl Tryz.underlying30 el4 rfl (by show _=some (Value.int .i64 ((Int.toNat a0.Events : Nat) : Int));rw [Int.toNat_of_nonneg aA];rfl) (by show _=some (Value.int .i64 ((Int.toNat a0.Events : Nat) : Int));rw [Int.toNat_of_nonneg aA];rfl) (Nat.le_refl _) aE (by simp only [maxLen];omega) rfl ?_
            clear H;intro eJ oG hN iG hs;clear a;intro a H;replace hS:=hS.newOwn hN iG (by simp [Vd];omega);clear hN
            replace hW:=Nat.le_trans hW iG.size
            refine Zk 12 H rfl (Qd (cs:=[.int .i64 a0.Id,.int .i64 0,.int .i64 0,.slice none 0 0,.slice none 0 0,.slice none 0 0,.slice (some ⟨eJ,0,none⟩) a0.Events.toNat a0.Events.toNat,bV,.slice (some ⟨eH,0,none⟩) a0.Ports.length a0.Ports.length,.slice none 0 0]) Tz Zeb Zec rfl ((Qa rfl rfl (by simp)).trans ((Qa (((hS.own 0 rfl).slr rfl (fun _ _=>rfl))).one rfl (by simp)).trans ((Qa (((hS.own 2 rfl).slr rfl (fun _ _=>rfl))).one rfl (by simp)).trans ((Qa ((hS.deepSl 1 rfl)).one rfl (by simp)).trans rfl))))) rfl (by kernel_rfl) (by kernel_rfl) (by kernel_rfl) (by kernel_rfl) (fun _ _ _ h=>h) ?_;clear H a;intro a H
            replace hS:=hS.pk3
            refine Qh 14 H rfl rfl rfl (vs:=[.int .i64 a0.Id,.int .i64 0,.int .i64 0,.slice none 0 0,.slice none 0 0,.slice none 0 0,.slice (some ⟨eJ,0,none⟩) a0.Events.toNat a0.Events.toNat,bV,.slice (some ⟨eH,0,none⟩) a0.Ports.length a0.Ports.length,.slice none 0 0]) rfl Zch (hS.blk 0 rfl) rfl (by simp [(((hS.own 1 rfl).slr rfl (fun _ _=>rfl))).one,(((hS.own 3 rfl).slr rfl (fun _ _=>rfl))).one,((hS.deepSl 2 rfl)).one]) (by kernel_rfl) (.inl (fun h=>absurd h (Nat.not_lt.2 aO))) ?_
            clear H;intro oH hN iH hz;clear a;intro a H;replace hS:=hS.setBlk hN iH;clear hN hz;replace hW:=Nat.le_trans hW iH.size
            refine Xk (by kernel_rfl) ?_
            refine Za ?_
            obtain rfl:=Option.some.inj hm;replace hm:=aC;try dsimp only at hm
            replace hS:=hS.pk2
            replace hS:=hS.pk3
            replace hS:=hS.pk3
            replace hS:=hS.pk3
            replace hS:=hS.pk5
            replace hS:=hS.pk6
            replace hS:=hS.tk6
            exact Wb ((List.replicate a0.Events.toNat false),aD,(List.replicate a0.Ports.length (⟨([] : List ByteArray),0⟩ : GPort)),.slice (some ⟨eJ,0,none⟩) a0.Events.toNat a0.Events.toNat,bV,.slice (some ⟨eH,0,none⟩) a0.Ports.length a0.Ports.length,bG) H ⟨rfl,rfl,rfl,trivial⟩ ⟨hm,hS⟩
        · skip
          refine Wc (L:=a0.Ports.length) (C:=a0.Ports.length) 11 H rfl Tryz.underlying31 Zbn rfl rfl (Nat.le_refl _) aG (by simp only [maxLen];omega) rfl ?_
          clear H;intro bW oI hN iI hs;clear a;intro a H;replace hS:=hS.newOwn hN iI (by simp [Vd];omega);clear hN
          replace hS:=St.mkDeep0 (R:=Yo) (z0:=(⟨([] : List ByteArray),0⟩ : GPort)) (n:=a0.Ports.length) rfl (by simp) (fun w=>⟨_,rfl,SlR.nil _ _ _⟩) hS
          replace hW:=Nat.le_trans hW iI.size
          refine Zd5 4 7 (by kernel_rfl) ?_ ?_
          · skip
            refine Yp (e:=eF) (z0:=false) (L:=a0.Events.toNat) (C:=a0.Events.toNat) 4 H rfl Tryz.underlying30 el4 rfl (by show _=some (Value.int .i64 ((Int.toNat a0.Events : Nat) : Int));rw [Int.toNat_of_nonneg aA];rfl) (by show _=some (Value.int .i64 ((Int.toNat a0.Events : Nat) : Int));rw [Int.toNat_of_nonneg aA];rfl) (Nat.le_refl _) aE (by simp only [maxLen];omega) rfl ?_
            clear H;intro eK oJ hN iJ hs;clear a;intro a H;replace hS:=hS.newOwn hN iJ (by simp [Vd];omega);clear hN
            replace hW:=Nat.le_trans hW iJ.size
            refine Xl 7 (by kernel_rfl) ?_
            refine Xr 7 H rfl rfl Zbo (Zw (A:=A) (aB.ext (Zn.mono _) hS.x) aF) rfl (fun v w hv=>.inl (ChgF.of_ext (by obtain⟨_,_,hE0⟩:=hv;exact hE0.x))) ?_
            clear H;intro eL oK hv;clear a;intro a H;obtain⟨_,rfl,iK⟩:=hv
            replace hS:=hS.new iK;simp only [List.cons_append,List.nil_append] at hS
            replace hW:=Nat.le_trans hW iK.x.size
            refine Zk 12 H rfl (Qd (cs:=[.int .i64 a0.Id,.int .i64 0,.int .i64 0,.slice none 0 0,.slice none 0 0,.slice none 0 0,.slice (some ⟨eK,0,none⟩) a0.Events.toNat a0.Events.toNat,eL,.slice (some ⟨bW,0,none⟩) a0.Ports.length a0.Ports.length,.slice none 0 0]) Tz Zeb Zec rfl ((Qa rfl rfl (by simp)).trans ((Qa (((hS.own 1 rfl).slr rfl (fun _ _=>rfl))).one rfl (by simp)).trans ((Qa (((hS.own 0 rfl).slr rfl (fun _ _=>rfl))).one rfl (by simp)).trans ((Qa ((hS.deepSl 2 rfl)).one rfl (by simp)).trans rfl))))) rfl (by kernel_rfl) (by kernel_rfl) (by kernel_rfl) (by kernel_rfl) (fun _ _ _ h=>h) ?_;clear H a;intro a H
            replace hS:=hS.pk3
            refine Qh 14 H rfl rfl rfl (vs:=[.int .i64 a0.Id,.int .i64 0,.int .i64 0,.slice none 0 0,.slice none 0 0,.slice none 0 0,.slice (some ⟨eK,0,none⟩) a0.Events.toNat a0.Events.toNat,eL,.slice (some ⟨bW,0,none⟩) a0.Ports.length a0.Ports.length,.slice none 0 0]) rfl Zch (hS.blk 0 rfl) rfl (by simp [(((hS.own 2 rfl).slr rfl (fun _ _=>rfl))).one,(((hS.own 1 rfl).slr rfl (fun _ _=>rfl))).one,((hS.deepSl 3 rfl)).one]) (by kernel_rfl) (.inl (fun h=>absurd h (Nat.not_lt.2 aO))) ?_
            clear H;intro oL hN iL hz;clear a;intro a H;replace hS:=hS.setBlk hN iL;clear hN hz;replace hW:=Nat.le_trans hW iL.size
            refine Xk (by kernel_rfl) ?_
            refine Za ?_
            obtain rfl:=Option.some.inj hm;replace hm:=aC;try dsimp only at hm
            replace hS:=hS.pk3
            replace hS:=hS.pk2
            replace hS:=hS.pk3
            replace hS:=hS.pk3
            replace hS:=hS.pk5
            replace hS:=hS.pk6
            replace hS:=hS.tk6
            exact Wb ((List.replicate a0.Events.toNat false),aD,(List.replicate a0.Ports.length (⟨([] : List ByteArray),0⟩ : GPort)),.slice (some ⟨eK,0,none⟩) a0.Events.toNat a0.Events.toNat,eL,.slice (some ⟨bW,0,none⟩) a0.Ports.length a0.Ports.length,bG) H ⟨rfl,rfl,rfl,trivial⟩ ⟨hm,hS⟩
          · skip
            refine Xr 7 H rfl rfl Zbo (Zw (A:=A) (aB.ext (Zn.mono _) hS.x) aF) rfl (fun v w hv=>.inl (ChgF.of_ext (by obtain⟨_,_,hE0⟩:=hv;exact hE0.x))) ?_
            clear H;intro eM oM hv;clear a;intro a H;obtain⟨_,rfl,iM⟩:=hv
            replace hS:=hS.new iM;simp only [List.cons_append,List.nil_append] at hS
            replace hW:=Nat.le_trans hW iM.x.size
            refine Xl 4 (by kernel_rfl) ?_
            refine Yp (e:=eF) (z0:=false) (L:=a0.Events.toNat) (C:=a0.Events.toNat) 4 H rfl Tryz.underlying30 el4 rfl (by show _=some (Value.int .i64 ((Int.toNat a0.Events : Nat) : Int));rw [Int.toNat_of_nonneg aA];rfl) (by show _=some (Value.int .i64 ((Int.toNat a0.Events : Nat) : Int));rw [Int.toNat_of_nonneg aA];rfl) (Nat.le_refl _) aE (by simp only [maxLen];omega) rfl ?_
            clear H;intro eN oN hN iN hs;clear a;intro a H;replace hS:=hS.newOwn hN iN (by simp [Vd];omega);clear hN
            replace hW:=Nat.le_trans hW iN.size
            refine Zk 12 H rfl (Qd (cs:=[.int .i64 a0.Id,.int .i64 0,.int .i64 0,.slice none 0 0,.slice none 0 0,.slice none 0 0,.slice (some ⟨eN,0,none⟩) a0.Events.toNat a0.Events.toNat,eM,.slice (some ⟨bW,0,none⟩) a0.Ports.length a0.Ports.length,.slice none 0 0]) Tz Zeb Zec rfl ((Qa rfl rfl (by simp)).trans ((Qa (((hS.own 0 rfl).slr rfl (fun _ _=>rfl))).one rfl (by simp)).trans ((Qa (((hS.own 1 rfl).slr rfl (fun _ _=>rfl))).one rfl (by simp)).trans ((Qa ((hS.deepSl 2 rfl)).one rfl (by simp)).trans rfl))))) rfl (by kernel_rfl) (by kernel_rfl) (by kernel_rfl) (by kernel_rfl) (fun _ _ _ h=>h) ?_;clear H a;intro a H
            replace hS:=hS.pk3
            refine Qh 14 H rfl rfl rfl (vs:=[.int .i64 a0.Id,.int .i64 0,.int .i64 0,.slice none 0 0,.slice none 0 0,.slice none 0 0,.slice (some ⟨eN,0,none⟩) a0.Events.toNat a0.Events.toNat,eM,.slice (some ⟨bW,0,none⟩) a0.Ports.length a0.Ports.length,.slice none 0 0]) rfl Zch (hS.blk 0 rfl) rfl (by simp [(((hS.own 1 rfl).slr rfl (fun _ _=>rfl))).one,(((hS.own 2 rfl).slr rfl (fun _ _=>rfl))).one,((hS.deepSl 3 rfl)).one]) (by kernel_rfl) (.inl (fun h=>absurd h (Nat.not_lt.2 aO))) ?_
            clear H;intro oO hN iO hz;clear a;intro a H;replace hS:=hS.setBlk hN iO;clear hN hz;replace hW:=Nat.le_trans hW iO.size
            refine Xk (by kernel_rfl) ?_
            refine Za ?_
            obtain rfl:=Option.some.inj hm;replace hm:=aC;try dsimp only at hm
            replace hS:=hS.pk3
            replace hS:=hS.pk3
            replace hS:=hS.pk3
            replace hS:=hS.pk3
            replace hS:=hS.pk5
            replace hS:=hS.pk6
            replace hS:=hS.tk6
            exact Wb ((List.replicate a0.Events.toNat false),aD,(List.replicate a0.Ports.length (⟨([] : List ByteArray),0⟩ : GPort)),.slice (some ⟨eN,0,none⟩) a0.Events.toNat a0.Events.toNat,eM,.slice (some ⟨bW,0,none⟩) a0.Ports.length a0.Ports.length,bG) H ⟨rfl,rfl,rfl,trivial⟩ ⟨hm,hS⟩
    · clear H hS hm a;intro xx a oP H hR
      obtain⟨aV,aW,bF,aR,aS,aT,aY⟩:=xx
      simp only [ent,List.map_cons,List.map_nil] at H;(try dsimp only at hR);obtain⟨hm,hS⟩:=hR;try dsimp only [Gr] at hm
      refine wp_seq (wp_seq (wp_region_lit (n_q H (Zd rfl Wx) rfl (W_q (Zf rfl ((hS.blk 0 rfl).ld Zgm rfl)) rfl ?_))));clear H a;intro a H
      obtain⟨oQ,oR,bZ,kU,kV⟩:=SlR.formV (bK.ext (Zn.mono _) hS.x)
      refine n_q H (Qe Tryz.underlying23 rfl bZ) rfl (W_q (Zc rfl) rfl ?_);clear H a;intro a H
      refine Ze (Za (wp_block ?_))
      replace hS:=hS.nilOwn 144 21
      replace hS:=hS.nilOwn 3 1
      replace hS:=hS.pk7
      replace hS:=hS.pk7
      replace hS:=hS.pk7
      replace hS:=hS.pk3
      replace hS:=hS.pk4
      replace hS:=hS.pk7
      replace hS:=hS.pk7
      replace hS:=hS.pk7
      replace hm:=Zj hm;obtain⟨i8,hm,jX⟩:=hm;replace hm:=Qk hm;obtain⟨kI,hm⟩:=hm
      refine Kn (σ:=Nat × Nat × (List GProc) × (List Int) × Value × Value) (fun (m,aN,aU,aZ,aX,a9)=>[(1,.pointer (some ⟨b8,0,none⟩)),(2,.pointer (some ⟨bX,0,none⟩)),(4,.pointer (some ⟨aY,0,none⟩)),(30,bA),(31,.int .i64 ((a0.Procs.length : Nat) : Int)),(32,.int .i64 ((aN : Nat) : Int))]) (fun (m,aN,aU,aZ,aX,a9) wl=>Kq (Vq a0) m (aN,aU,aZ)=some i8 ∧ St NB w wl [blkR b8 [.int .i64 a0.Id,.bool a0.Mobile,bD,bA,bH,.int .i64 a0.Events,bI] 27,blkR bX [.int .i64 0,.int .i64 0,.int .i64 0,.slice none 0 0,.slice none 0 0,.slice none 0 0,.slice none 0 0,.slice none 0 0,.slice none 0 0,.slice none 0 0] 34,blkR aY [.int .i64 a0.Id,.int .i64 0,.int .i64 0,aX,a9,.slice none 0 0,aR,aS,aT,.slice none 0 0] 34,ownR 144 21 aX aU.length (aU.flatMap Hg),ownR 3 1 a9 aZ.length (aZ.flatMap eI),ownR 4 1 aR aV.length (aV.flatMap eF),ownR 3 1 aS aW.length (aW.flatMap eI),deepR 154 2 Yo aT bF]) (fun (m,aN,aU,aZ,aX,a9)=>m) (kI,0,([] : List GProc),([] : List Int),.slice none 0 0,.slice none 0 0) H ⟨rfl,rfl,rfl,rfl,rfl,rfl,trivial⟩ ⟨hm,hS⟩ ?_
      clear H hS hm a;intro xx a oS H hR;obtain⟨m,aN,aU,aZ,aX,a9⟩:=xx;simp only [ent,List.map_cons,List.map_nil] at H;(try dsimp only at hR);obtain⟨hm,hS⟩:=hR
      replace hm:=Qi hm;obtain⟨kJ,kK,rfl,hm,iP⟩:=hm;try dsimp only [Vq] at hm
      refine wp_seq (wp_region_lit (n_q H (Jr (i:=aN) (j:=a0.Procs.length) rfl rfl) rfl ?_));clear H a;intro a H
      refine Ze (Za (wp_seq (Zl H rfl (fun b7=>?_) (fun b7=>?_))))
      · replace hm:=Zu hm b7
        have kO : aN < a0.Procs.length:=of_decide_eq_true b7
        refine wp_skip (Za (wp_seq (wp_block (wp_seq (wp_region_lit (n_q H (Zc rfl) rfl ?_))))));clear H a;intro a H
        replace hm:=Zj hm;obtain⟨aP,cJ,hm⟩:=hm
        obtain⟨kP,cL⟩:=SlR.adV (bK.ext (Zn.mono _) hS.x) bZ cJ
        refine n_q H (Vw (i:=aN) Tryz.underlying23 Ha rfl bZ cL rfl (Zaz cJ)) rfl (W_q (Zf rfl (SlR.ldAggV (bK.ext (Zn.mono _) hS.x) bZ cL Zhq Ha cJ)) rfl ?_);clear H a;intro a H
        refine Xf H Zd8 rfl ?_
        clear H;intro oT oU hN jY hs;clear a;intro a H
        replace hS:=hS.newBlk hN jY hs;clear hN hs
        refine n_q H (Zb rfl) rfl ?_;clear H a;intro a H
        refine Zr H rfl rfl (vs:=[.int .i64 aP.Entry,.int .i64 aP.Prio,.bool aP.Auto]) rfl Ha (hS.blk 0 rfl) rfl (by simp) ?_
        clear H;intro oV hN jZ hz;clear a;intro a H;replace hS:=hS.setBlk hN jZ;clear hN hz
        refine Ze (Za (wp_seq (wp_region_lit (n_q H (Zd rfl Zau) rfl (W_q (Zf rfl ((hS.blk 0 rfl).ld ag3 rfl)) rfl (W_q (Us Tryz.underlying3 Tryz.underlying101 ⟨_,rfl⟩ rfl) rfl (W_q (Zd rfl Zdk) rfl (W_q (Zf rfl ((hS.blk 0 rfl).ld ag3 rfl)) rfl (W_q (Qd (cs:=((Vector.replicate 16 0).toList.map (Value.int .u32) ++ [.int .u32 (IntKind.u32.wrap aP.Entry),.int .i64 0,.int .i64 aP.Prio,.int .i64 0,.int .i64 0])) Zp4 bd144 pl144 rfl (by kernel_rfl)) rfl ?_)))))))));clear H a;intro a H
        refine Xf H Zp4 rfl ?_
        clear H;intro i9 oW hN j0 hs;clear a;intro a H
        replace hS:=hS.newBlk hN j0 hs;clear hN hs
        refine Zr H rfl rfl (vs:=((Vector.replicate 16 0).toList.map (Value.int .u32) ++ [.int .u32 (IntKind.u32.wrap aP.Entry),.int .i64 0,.int .i64 aP.Prio,.int .i64 0,.int .i64 0])) rfl (Zp3.trans (by simp)) (hS.blk 0 rfl) (by simp) (Zfw (⟨(Vector.replicate 16 0),(IntKind.u32.wrap aP.Entry),0,aP.Prio,0,0⟩ : GProc)) ?_
        clear H;intro oX hN j1 hz;clear a;intro a H;replace hS:=hS.setBlk hN j1;clear hN hz
        refine Ze (Za ?_)
        replace hm:=Zj hm;obtain⟨oY,hm,iQ⟩:=hm
        refine Gw (σ:=(List Int) × GProc × Value) H (fun (bE,aM,bL)=>[(1,.pointer (some ⟨b8,0,none⟩)),(2,.pointer (some ⟨bX,0,none⟩)),(4,.pointer (some ⟨aY,0,none⟩)),(7,.pointer (some ⟨i9,0,none⟩)),(30,bA),(31,.int .i64 ((a0.Procs.length : Nat) : Int)),(32,.int .i64 ((aN : Nat) : Int))]) (fun (bE,aM,bL) wl=>(Gq aN aU) (bE,aM)=some kK ∧ St NB w wl [blkR b8 [.int .i64 a0.Id,.bool a0.Mobile,bD,bA,bH,.int .i64 a0.Events,bI] 27,blkR bX [.int .i64 0,.int .i64 0,.int .i64 0,.slice none 0 0,.slice none 0 0,.slice none 0 0,.slice none 0 0,.slice none 0 0,.slice none 0 0,.slice none 0 0] 34,blkR aY [.int .i64 a0.Id,.int .i64 0,.int .i64 0,aX,bL,.slice none 0 0,aR,aS,aT,.slice none 0 0] 34,ownR 144 21 aX aU.length (aU.flatMap Hg),ownR 3 1 bL bE.length (bE.flatMap eI),ownR 4 1 aR aV.length (aV.flatMap eF),ownR 3 1 aS aW.length (aW.flatMap eI),deepR 154 2 Yo aT bF,blkR i9 (aM.Regs.toList.map (Value.int .u32) ++ [.int .u32 aM.Pc,.int .i64 aM.State,.int .i64 aM.Prio,.int .i64 aM.Wait,.int .i64 aM.Obj]) 144]) ?_ ?_
        · skip
          refine wp_seq (wp_region_lit (n_q H (Zd rfl Zl3) rfl (W_q (Zf rfl ((hS.blk 1 rfl).ld ag4 rfl)) rfl ?_)));clear H a;intro a H
          refine Ze (Za (Zl H rfl (fun cD=>?_) (fun cD=>?_)))
          · replace hm:=Zu hm cD
            refine wp_seq (wp_region_lit (n_q H (Zd rfl Zp2) rfl ?_));clear H a;intro a H
            refine Kj H rfl rfl sz3 (hS.blk 0 rfl) (by simp) rfl ?_
            clear H;intro kW hN jA hz;clear a;intro a H;replace hS:=hS.setBlk hN jA;clear hN hz
            try simp only [List.set_cons_succ,List.set_cons_zero] at hS
            refine Ze (Za (wp_region_lit (n_q H (Zd rfl Zl7) rfl (W_q (Zf rfl ((hS.blk 4 rfl).ld Zgn rfl)) rfl (W_q (Zc rfl) rfl ?_)))));clear H a;intro a H
            refine Qf H Tryz.underlying25 sz3 ze3 rfl rfl rfl (cs:=[.int .i64 ((aN : Nat) : Int)]) (by kernel_rfl) rfl ?_
            clear H;intro kX kY hN jB hs;clear a;intro a H
            replace hS:=hS.newBlk hN jB hs;clear hN hs
            replace hS:=hS.blkOwnL (e:=eI) (k:=1) [((aN : Nat) : Int)] rfl rfl (by simp [maxLen])
            replace hS:=hS.pk7
            replace hm:=Zbm hm;obtain⟨jC,hm⟩:=hm
            refine Zcr (e:=eI) H rfl rfl Tryz.underlying25 Tryz.underlying25 (by simp) el3 (hS.own 0 rfl) (((hS.own 1 rfl).slr rfl (fun _ _=>rfl)).src (fun _ _=>rfl)) Zjy jC (by simp only [maxLen];omega) rfl ?_
            clear H;intro j2 kZ hN jD hb;clear a;intro a H;replace hS:=hS.setOwn hN jD hb;clear hN hb
            refine n_q H (Zd rfl Zl7) rfl ?_;clear H a;intro a H
            replace hS:=hS.pk6
            refine Kj H rfl rfl sz25 (hS.blk 0 rfl) (by simp) (((hS.own 1 rfl).slr rfl (fun _ _=>rfl))).one ?_
            clear H;intro k7 hN jE hz;clear a;intro a H;replace hS:=hS.setBlk hN jE;clear hN hz
            try simp only [List.set_cons_succ,List.set_cons_zero] at hS
            refine Ze (Za ?_)
            obtain rfl:=Option.some.inj hm;replace hm:=iQ;try dsimp only at hm
            replace hS:=hS.pk3
            replace hS:=hS.pk10
            replace hS:=hS.pk10
            replace hS:=hS.pk10
            replace hS:=hS.pk5
            replace hS:=hS.pk10
            replace hS:=hS.pk6
            replace hS:=hS.pk10
            replace hS:=hS.pk10
            replace hS:=hS.tk9
            exact Wb ((aZ ++ [((aN : Nat) : Int)]),(⟨(Vector.replicate 16 0),(IntKind.u32.wrap aP.Entry),1,aP.Prio,0,0⟩ : GProc),j2) H ⟨rfl,rfl,rfl,rfl,rfl,rfl,rfl,trivial⟩ ⟨hm,hS⟩
          · replace hm:=Zv hm cD
            refine wp_skip (Za ?_)
            obtain rfl:=Option.some.inj hm;replace hm:=iQ;try dsimp only at hm
            replace hS:=hS.pk9
            replace hS:=hS.pk9
            replace hS:=hS.pk9
            replace hS:=hS.pk9
            replace hS:=hS.pk9
            replace hS:=hS.pk9
            replace hS:=hS.pk9
            replace hS:=hS.pk9
            replace hS:=hS.tk9
            exact Wb (aZ,(⟨(Vector.replicate 16 0),(IntKind.u32.wrap aP.Entry),0,aP.Prio,0,0⟩ : GProc),a9) H ⟨rfl,rfl,rfl,rfl,rfl,rfl,rfl,trivial⟩ ⟨hm,hS⟩
        · clear H hS hm a;intro xx a k8 H hR
          obtain⟨bE,aM,bL⟩:=xx
          simp only [ent,List.map_cons,List.map_nil] at H;(try dsimp only at hR);obtain⟨hm,hS⟩:=hR;try dsimp only [Gq] at hm
          refine wp_region_lit (n_q H (Zd rfl Zl6) rfl (W_q (Zf rfl ((hS.blk 2 rfl).ld ag28 rfl)) rfl (W_q (Zf rfl ((hS.blk 8 rfl).ldAll ag144 (Zp3.trans (by simp)))) rfl ?_)));clear H a;intro a H
          refine Qf H Tryz.underlying28 Zp3 Zp4 rfl rfl rfl (cs:=[aM].flatMap Hg) ((Zj5 (k:=21) (ds:=Hg aM) (by rfl) (by simp [Hg]) (by rfl)).trans (by simp)) rfl ?_
          clear H;intro k9 lA hN jF hs;clear a;intro a H
          replace hS:=hS.newBlk hN jF hs;clear hN hs
          replace hS:=hS.blkOwnL (e:=Hg) (k:=21) [aM] rfl (by simp [Hg]) (by simp [maxLen])
          replace hS:=hS.pk4
          replace hm:=Zbm hm;obtain⟨jG,hm⟩:=hm
          refine Zcr (e:=Hg) H rfl rfl Tryz.underlying28 Tryz.underlying28 (by simp) el144 (hS.own 0 rfl) (((hS.own 1 rfl).slr rfl (fun x _=>Hs x)).src (fun x _=>Hs x)) Zfw jG (by simp only [maxLen];omega) rfl ?_
          clear H;intro j3 lB hN jH hb;clear a;intro a H;replace hS:=hS.setOwn hN jH hb;clear hN hb
          refine n_q H (Zd rfl Zl6) rfl ?_;clear H a;intro a H
          replace hS:=hS.pk4
          refine Kj H rfl rfl sz28 (hS.blk 0 rfl) (by simp) (((hS.own 1 rfl).slr rfl (fun x _=>Hs x))).one ?_
          clear H;intro lC hN jI hz;clear a;intro a H;replace hS:=hS.setBlk hN jI;clear hN hz
          try simp only [List.set_cons_succ,List.set_cons_zero] at hS
          refine Ze (Zo (Za (wp_region_lit (n_q H (Yn (i:=aN) (j:=1) rfl rfl (by omega)) rfl (W_q (Zc rfl) rfl ?_)))));clear H a;intro a H
          refine Ze (Za ?_)
          obtain rfl:=Option.some.inj hm
          replace hS:=hS.pk8
          replace hS:=hS.pk8
          replace hS:=hS.pk8
          replace hS:=hS.pk8
          replace hS:=hS.pk5
          replace hS:=hS.pk5
          replace hS:=hS.pk8
          replace hS:=hS.pk8
          replace hS:=hS.tk8
          exact Wv (kJ,aN + 1,(aU ++ [aM]),bE,j3,bL) H ⟨rfl,rfl,rfl,rfl,rfl,rfl,trivial⟩ ⟨iP,hS⟩ (Nat.lt_succ_self _)
      · replace hm:=Zv hm b7
        refine wp_exit (Zq (Zq (Qg ?_)))
        obtain rfl:=Option.some.inj hm;have hz : _=i8:=iP;subst hz;replace hm:=jX;try dsimp only at hm
        refine Za (wp_seq (wp_seq (wp_region_lit (n_q H (Zd rfl Vz) rfl (W_q (Zf rfl ((hS.blk 0 rfl).ld Zfb rfl)) rfl ?_)))));clear H a;intro a H
        obtain⟨lD,lE,bM,kQ,kR⟩:=SlR.formV (bJ.ext (Zn.mono _) hS.x)
        refine n_q H (Qe Tryz.underlying22 rfl bM) rfl (W_q (Zc rfl) rfl ?_);clear H a;intro a H
        refine Ze (Za (wp_block ?_))
        replace hS:=hS.nilOwn 82 66
        replace hS:=hS.pk8
        replace hS:=hS.pk8
        replace hS:=hS.pk8
        replace hS:=hS.pk8
        replace hS:=hS.pk8
        replace hS:=hS.pk8
        replace hS:=hS.pk8
        replace hS:=hS.tk8
        replace hm:=Zj hm;obtain⟨iR,hm,jJ⟩:=hm;replace hm:=Qk hm;obtain⟨j4,hm⟩:=hm
        refine Kn (σ:=Nat × Nat × (List GPage) × Value) (fun (m,aQ,bB,bC)=>[(2,.pointer (some ⟨bX,0,none⟩)),(4,.pointer (some ⟨aY,0,none⟩)),(60,bD),(61,.int .i64 ((a0.Pages.length : Nat) : Int)),(62,.int .i64 ((aQ : Nat) : Int))]) (fun (m,aQ,bB,bC) wl=>Kq (Vp a0) m (aQ,bB)=some iR ∧ St NB w wl [blkR bX [.int .i64 0,.int .i64 0,.int .i64 0,.slice none 0 0,.slice none 0 0,.slice none 0 0,.slice none 0 0,.slice none 0 0,.slice none 0 0,.slice none 0 0] 34,blkR aY [.int .i64 a0.Id,.int .i64 0,.int .i64 0,aX,a9,.slice none 0 0,aR,aS,aT,bC] 34,ownR 144 21 aX aU.length (aU.flatMap Hg),ownR 3 1 a9 aZ.length (aZ.flatMap eI),ownR 4 1 aR aV.length (aV.flatMap eF),ownR 3 1 aS aW.length (aW.flatMap eI),deepR 154 2 Yo aT bF,ownR 82 66 bC bB.length (bB.flatMap Tt)]) (fun (m,aQ,bB,bC)=>m) (j4,0,([] : List GPage),.slice none 0 0) H ⟨rfl,rfl,rfl,rfl,rfl,trivial⟩ ⟨hm,hS⟩ ?_
        clear H hS hm a;intro xx a lF H hR;obtain⟨m,aQ,bB,bC⟩:=xx;simp only [ent,List.map_cons,List.map_nil] at H;(try dsimp only at hR);obtain⟨hm,hS⟩:=hR
        replace hm:=Qi hm;obtain⟨j5,lG,rfl,hm,cM⟩:=hm;try dsimp only [Vp] at hm
        refine wp_seq (wp_region_lit (n_q H (Jr (i:=aQ) (j:=a0.Pages.length) rfl rfl) rfl ?_));clear H a;intro a H
        refine Ze (Za (wp_seq (Zl H rfl (fun bN=>?_) (fun bN=>?_))))
        · replace hm:=Zu hm bN
          have kL : aQ < a0.Pages.length:=of_decide_eq_true bN
          refine wp_skip (Za (wp_seq (wp_block (wp_seq (wp_region_lit ?_)))))
          replace hm:=Zj hm;obtain⟨aH,cF,hm⟩:=hm
          obtain⟨kM,cH⟩:=SlR.adV (bJ.ext (Zn.mono _) hS.x) bM cF
          refine n_q H (Vw (i:=aQ) Tryz.underlying22 Gm rfl bM cH rfl (Zaz cF)) rfl (W_q (Zf rfl (SlR.ldAggV (bJ.ext (Zn.mono _) hS.x) bM cH Zhp Gm cF)) rfl ?_);clear H a;intro a H
          refine Xf H Zd7 rfl ?_
          clear H;intro lH lI hN jK hs;clear a;intro a H
          replace hS:=hS.newBlk hN jK hs;clear hN hs
          refine Zr H rfl rfl (vs:=[.int .i64 aH.Rights,.string aH.Init]) rfl Gm (hS.blk 0 rfl) rfl (by simp) ?_
          clear H;intro lJ hN jL hz;clear a;intro a H;replace hS:=hS.setBlk hN jL;clear hN hz
          refine Ze (Za (wp_seq (wp_region_lit (n_q H (Zd rfl Zdj) rfl (W_q (Zf rfl ((hS.blk 0 rfl).ld ag3 rfl)) rfl (W_q (Qd (cs:=([.int .i64 aH.Rights,.bool false] ++ (Vector.replicate 64 0).toList.map (fun b : UInt8=>Value.int .u8 (b.toNat : Int)))) ze82 bd82 pl82 rfl (by kernel_rfl)) rfl ?_))))));clear H a;intro a H
          refine Xf H ze82 rfl ?_
          clear H;intro j6 lK hN jM hs;clear a;intro a H
          replace hS:=hS.newBlk hN jM hs;clear hN hs
          refine Zr H rfl rfl (vs:=([.int .i64 aH.Rights,.bool false] ++ (Vector.replicate 64 0).toList.map (fun b : UInt8=>Value.int .u8 (b.toNat : Int)))) rfl (sz82.trans (by simp)) (hS.blk 0 rfl) (by simp) (Zfx (⟨aH.Rights,false,(Vector.replicate 64 0)⟩ : GPage)) ?_
          clear H;intro iS hN jN hz;clear a;intro a H;replace hS:=hS.setBlk hN jN;clear hN hz
          refine Ze (Za (wp_seq (Tp [] 4 (by kernel_rfl) ?_)))
          obtain⟨iT,cG⟩ : ∃ x,x=iS.drew:=⟨_,rfl⟩;rw [← cG];have jO : Ext iS iT:=by rw [cG];exact Ext.drew' _
          clear cG
          replace hS:=hS.ext jO
          have jP:=hS
          have hW:=Nat.le_refl iT.heap.size
          refine Zk 0 H rfl (Zd rfl Zpb) rfl (by kernel_rfl) (by kernel_rfl) (by kernel_rfl) (by kernel_rfl) (fun _ _ _ h=>h) ?_;clear H a;intro a H
          refine Zk 1 H rfl (Zkm Tryz.underlying80 sz5 rfl (by decide)) rfl (by kernel_rfl) (by kernel_rfl) (by kernel_rfl) (by kernel_rfl) (fun _ _ _ h=>h) ?_;clear H a;intro a H
          refine Zk 2 H rfl (Zd rfl Zgo) rfl (by kernel_rfl) (by kernel_rfl) (by kernel_rfl) (by kernel_rfl) (fun _ _ _ h=>h) ?_;clear H a;intro a H
          refine Xu 3 H rfl (Zf rfl (LdC.old ((jP.blk 1 rfl).ld ag9 rfl) Ext.rfl' (Nat.le_refl _) (by simp))) rfl (by kernel_rfl) (by kernel_rfl) (by kernel_rfl) (by kernel_rfl) (fun _ _ _ h=>h) ?_;clear H a;intro a H
          refine Zlv 4 H rfl Tryz.underlying100 sz5 rfl rfl (hS.blk 0 rfl) (by simp) rfl (by kernel_rfl) (.inr (by kernel_rfl)) ?_
          clear H;intro j7 hN cN hz;clear a;intro a H;replace hN:=(congrArg (fun z=>Blk j7 j6 z 82) (Zlw (A:=[Value.int .i64 aH.Rights,Value.bool false]) (v:=(Vector.replicate 64 0)) (s:=aH.Init))).mp hN;replace hS:=hS.setBlk hN cN;clear hN hz;replace hW:=Nat.le_trans hW cN.size
          refine Xk (by kernel_rfl) ?_
          refine Za (wp_region_lit (n_q H (Zd rfl Zj7) rfl (W_q (Zf rfl ((hS.blk 3 rfl).ld ag32 rfl)) rfl (W_q (Zf rfl ((hS.blk 0 rfl).ldAll ag82 (sz82.trans (by simp)))) rfl ?_))));clear H a;intro a H
          refine Qf H Tryz.underlying32 sz82 ze82 rfl rfl rfl (cs:=[(⟨aH.Rights,false,(Znc (Vector.replicate 64 0) aH.Init)⟩ : GPage)].flatMap Tt) ((Zj5 (k:=66) (ds:=Tt (⟨aH.Rights,false,(Znc (Vector.replicate 64 0) aH.Init)⟩ : GPage)) (by rfl) (by simp [Tt]) (by rfl)).trans (by simp)) rfl ?_
          clear H;intro lL lM hN jQ hs;clear a;intro a H
          replace hS:=hS.newBlk hN jQ hs;clear hN hs
          replace hS:=hS.blkOwnL (e:=Tt) (k:=66) [(⟨aH.Rights,false,(Znc (Vector.replicate 64 0) aH.Init)⟩ : GPage)] rfl (by simp [Tt]) (by simp [maxLen])
          replace hS:=hS.pk10
          replace hm:=Zbm hm;obtain⟨jR,hm⟩:=hm
          refine Zcr (e:=Tt) H rfl rfl Tryz.underlying32 Tryz.underlying32 (by simp) el82 (hS.own 0 rfl) (((hS.own 1 rfl).slr rfl (fun x _=>Uq x)).src (fun x _=>Uq x)) Zfx jR (by simp only [maxLen];omega) rfl ?_
          clear H;intro j8 lN hN jS hb;clear a;intro a H;replace hS:=hS.setOwn hN jS hb;clear hN hb
          refine n_q H (Zd rfl Zj7) rfl ?_;clear H a;intro a H
          replace hS:=hS.pk5
          refine Kj H rfl rfl sz32 (hS.blk 0 rfl) (by simp) (((hS.own 1 rfl).slr rfl (fun x _=>Uq x))).one ?_
          clear H;intro lO hN jT hz;clear a;intro a H;replace hS:=hS.setBlk hN jT;clear hN hz
          try simp only [List.set_cons_succ,List.set_cons_zero] at hS
          refine Ze (Zo (Za (wp_region_lit (n_q H (Yn (i:=aQ) (j:=1) rfl rfl (by omega)) rfl (W_q (Zc rfl) rfl ?_)))));clear H a;intro a H
          refine Ze (Za ?_)
          obtain rfl:=Option.some.inj hm
          replace hS:=hS.pk1
          replace hS:=hS.pk10
          replace hS:=hS.pk10
          replace hS:=hS.pk10
          replace hS:=hS.pk10
          replace hS:=hS.pk10
          replace hS:=hS.pk6
          replace hS:=hS.pk10
          replace hS:=hS.tk8
          exact Wv (j5,aQ + 1,(bB ++ [(⟨aH.Rights,false,(Znc (Vector.replicate 64 0) aH.Init)⟩ : GPage)]),j8) H ⟨rfl,rfl,rfl,rfl,rfl,trivial⟩ ⟨cM,hS⟩ (Nat.lt_succ_self _)
        · replace hm:=Zv hm bN
          refine wp_exit (Zq (Zq (Qg ?_)))
          obtain rfl:=Option.some.inj hm;have hz : _=iR:=cM;subst hz;replace hm:=jJ;try dsimp only at hm
          refine Za (wp_seq (wp_region_lit (n_q H (Zf rfl ((hS.blk 1 rfl).ldAll ag34 Zch)) rfl ?_)));clear H a;intro a H
          refine Zr H rfl rfl (vs:=[.int .i64 a0.Id,.int .i64 0,.int .i64 0,aX,a9,.slice none 0 0,aR,aS,aT,bC]) rfl Zch (hS.blk 0 rfl) rfl (by simp [(((hS.own 2 rfl).slr rfl (fun x _=>Hs x))).one,(((hS.own 3 rfl).slr rfl (fun _ _=>rfl))).one,(((hS.own 4 rfl).slr rfl (fun _ _=>rfl))).one,(((hS.own 5 rfl).slr rfl (fun _ _=>rfl))).one,((hS.deepSl 6 rfl)).one,(((hS.own 7 rfl).slr rfl (fun x _=>Uq x))).one]) ?_
          clear H;intro lP hN jU hz;clear a;intro a H;replace hS:=hS.setBlk hN jU;clear hN hz
          refine n_q H (Zb rfl) rfl ?_;clear H a;intro a H
          refine Ze (Za (wp_ret ?_))
          obtain rfl:=Option.some.inj hm
          replace hS:=hS.nilOwn 163 2
          replace hS:=hS.dNil (A:=A)
          replace hS:=hS.pk2
          replace hS:=hS.pk1
          replace hS:=hS.pk9
          replace hS:=hS.pk9
          replace hS:=hS.pk9
          replace hS:=hS.pk9
          replace hS:=hS.pk6
          replace hS:=hS.pk9
          replace hS:=hS.pk9
          replace hS:=hS.tk9
          refine Zae H (.inr rfl) rfl (vs:=[.agg #[.int .i64 a0.Id,.int .i64 0,.int .i64 0,aX,a9,.slice none 0 0,aR,aS,aT,bC],.nilIface]) (Xh rfl ((hS.blk 8 rfl).ldAll ag34 Zch) (Kv rfl Xt)) ?_
          replace hS:=hS.tk8
          exact⟨_,_,_,_,_,_,_,_,rfl,hS⟩
theorem Zfe {w : World} {A : Nat → Addr} {cs0 : List Value} {a0 : GPlan} (hG : EV A w) (h0 : Qs w cs0 a0) {r : Int × ErrM} (hm : Gy a0=some r) :
    Calls Tryz.prog 67 [.agg cs0.toArray].toArray w (Ret fun u w'=>∃ h_0,u=.tuple #[.int .i64 r.1,h_0] ∧ St NB w w' [erQ A h_0 r.2]):=by
  obtain⟨aA,aB,aC,aD,rfl,aE,aF,aG,aH⟩:=h0
  have hS:=St.begin NB w
  unfold Gy at hm
  refine enter Tryz.func67 rfl rfl rfl ?_;intro a H;dsimp only [Qn,Nat.zero_add,Nat.reduceAdd] at H
  refine wp_seq (wp_region_lit (Wi H rfl (cs:=[.int .i64 a0.Id,.bool a0.Mobile,aA,aB,aC,.int .i64 a0.Events,aD]) rfl rfl ?_))
  clear H;intro aS aT hN aM hs;clear a;intro a H
  replace hS:=hS.newBlk hN aM hs;clear hN hs
  refine n_q H (Zb rfl) rfl (W_q (Zb rfl) rfl ?_);clear H a;intro a H
  refine Ze (Za (wp_seq (wp_seq (wp_region_lit (n_q H (Zf rfl ((hS.blk 0 rfl).ldAll Zam Gh)) rfl ?_)))));clear H a;intro a H
  replace hm:=Zj hm;obtain⟨aJ,aN,hm⟩:=hm
  refine Zi H rfl en57 (Wy (A:=A) (hG.ext hS.x) (⟨_,_,_,_,rfl,(aE.ext (Zn.mono _) hS.x),(aF.ext (Zn.mono _) hS.x),(aG.ext (Zn.mono _) hS.x),(aH.ext (Zn.mono _) hS.x)⟩ : Qs _ [.int .i64 a0.Id,.bool a0.Mobile,aA,aB,aC,.int .i64 a0.Events,aD] a0) aN) rfl ?_
  clear H;intro aK aL hv;clear a;intro a H;obtain⟨_,rfl,aO⟩:=hv
  replace hS:=hS.new aO;simp only [List.cons_append,List.nil_append] at hS
  refine n_q H (Qq (Jh Tryz.underlying39 rfl rfl (hS.any 0 rfl : IsE A aL aK aJ).form) (show _=Value.bool (!decide (aJ=.nil)) by rw [Xb.isNil (hS.any 0 rfl : IsE A aL aK aJ)])) rfl ?_;clear H a;intro a H
  refine Ze (Za (Zl H rfl (fun aI=>?_) (fun aI=>?_)))
  · replace hm:=Zu hm aI
    refine wp_seq (Wq (by kernel_rfl) (by kernel_rfl) ?_)
    refine Xg H (Zf rfl ((hG.ext hS.x).ld Gf (by decide) Ub)) rfl ?_;clear H a;intro a H
    refine Xg H (Zb rfl) rfl ?_;clear H a;intro a H
    refine Xg H (Zb rfl) rfl ?_;clear H a;intro a H
    refine Hf ?_;intro aU aP
    replace hS:=hS.ext aP
    refine Za (wp_ret (Zg ?_))
    obtain rfl:=Option.some.inj hm
    replace hS:=hS.dVar (A:=A) (g:=Gf) (by decide)
    replace hS:=hS.tk1
    refine Zbu H (.inr rfl) rfl rfl rfl ?_
    exact⟨_,rfl,hS⟩
  · replace hm:=Zv hm aI
    refine wp_skip (Za (wp_seq (wp_region_lit (n_q H (Zf rfl ((hS.blk 1 rfl).ldAll Zam Gh)) rfl ?_))));clear H a;intro a H
    replace hm:=Zj hm;obtain⟨aV,aQ,hm⟩:=hm
    refine Zi H rfl en140 (Zb0 (A:=A) (hG.ext hS.x) (⟨_,_,_,_,rfl,(aE.ext (Zn.mono _) hS.x),(aF.ext (Zn.mono _) hS.x),(aG.ext (Zn.mono _) hS.x),(aH.ext (Zn.mono _) hS.x)⟩ : Qs _ [.int .i64 a0.Id,.bool a0.Mobile,aA,aB,aC,.int .i64 a0.Events,aD] a0) aQ) rfl ?_
    clear H;intro aW aX hv;clear a;intro a H;obtain⟨rfl,aR⟩:=hv
    replace hS:=hS.ext aR
    refine n_q H (Zb rfl) rfl (W_q (Zb rfl) rfl ?_);clear H a;intro a H
    refine Ze (Za (wp_ret ?_))
    obtain rfl:=Option.some.inj hm
    replace hS:=hS.dNil (A:=A)
    replace hS:=hS.tk1
    refine Zbu H (.inr rfl) rfl rfl rfl ?_
    exact⟨_,rfl,hS⟩
set_option maxHeartbeats 1000000 in
theorem Zet {w : World} {A : Nat → Addr} (hG : EV A w) (hH : HE w) {r : Bool} (hm : Ux=some r) :
    Calls Tryz.prog 45 [].toArray w (Ret fun u w'=>u=.bool r ∧ Ext w w'):=by
  have hS:=St.begin NB w
  unfold Ux at hm
  refine enter Tryz.func45 rfl rfl rfl ?_;intro a H;dsimp only [Qn,Nat.zero_add,Nat.reduceAdd] at H
  refine wp_seq (wp_region_lit (n_q H (Zb rfl) rfl ?_));clear H a;intro a H
  refine Ze (Za (wp_seq (wp_region_lit ?_)))
  replace hm:=Zj hm;obtain⟨aA,cL,hm⟩:=hm
  refine Zi H rfl en46 (Zes (A:=A) cL) rfl ?_
  clear H;intro eD eE hv;clear a;intro a H;obtain⟨aM,aN,aO,aP,rfl,cM⟩:=hv
  replace hS:=hS.new cM;simp only [List.cons_append,List.nil_append] at hS
  refine Xf H Zi3 rfl ?_
  clear H;intro bK eG hN cN hs;clear a;intro a H
  replace hS:=hS.newBlk hN cN hs;clear hN hs
  refine Zr H rfl rfl (vs:=[.int .i64 aA.Id,.bool aA.Mobile,aM,aN,aO,.int .i64 aA.Events,aP]) rfl Gh (hS.blk 0 rfl) rfl (by simp [(((hS.own 1 rfl).slr rfl (fun _ _=>rfl))).one,(((hS.own 2 rfl).slr rfl (fun _ _=>rfl))).one,(((hS.own 3 rfl).slr rfl (fun _ _=>rfl))).one,(((hS.own 4 rfl).slr rfl (fun _ _=>rfl))).one]) ?_
  clear H;intro eH hN cO hz;clear a;intro a H;replace hS:=hS.setBlk hN cO;clear hN hz
  refine Ze (Za (wp_seq (wp_region_lit (n_q H (Zf rfl ((hS.blk 0 rfl).ldAll Zam Gh)) rfl ?_))));clear H a;intro a H
  replace hm:=Zj hm;obtain⟨bI,cP,hm⟩:=hm
  refine Zi H rfl en67 (Zfe (A:=A) (hG.ext hS.x) (⟨_,_,_,_,rfl,((hS.own 1 rfl).slr rfl (fun _ _=>rfl)),((hS.own 2 rfl).slr rfl (fun _ _=>rfl)),((hS.own 3 rfl).slr rfl (fun _ _=>rfl)),((hS.own 4 rfl).slr rfl (fun _ _=>rfl))⟩ : Qs _ [.int .i64 aA.Id,.bool aA.Mobile,aM,aN,aO,.int .i64 aA.Events,aP] aA) cP) rfl ?_
  clear H;intro eJ eK hv;clear a;intro a H;obtain⟨cK,rfl,cQ⟩:=hv
  replace hS:=hS.new cQ;simp only [List.cons_append,List.nil_append] at hS
  refine n_q H (Zc rfl) rfl (W_q (Zh rfl rfl) rfl (W_q (Zh rfl rfl) rfl (W_q (Zb rfl) rfl (W_q (Zb rfl) rfl ?_))));clear H a;intro a H
  refine Ze (Za (wp_seq ?_))
  replace hm:=Zj hm;obtain⟨eL,hm,bJ⟩:=hm
  refine Gw (σ:=Bool) H (fun bC=>[(1,.pointer (some ⟨bK,0,none⟩)),(23,.bool bC)]) (fun bC wl=>(Ud aA) bC=some r ∧ St NB w wl [blkR bK [.int .i64 aA.Id,.bool aA.Mobile,aM,aN,aO,.int .i64 aA.Events,aP] 27,ownR 114 2 aM aA.Pages.length (aA.Pages.flatMap Zz),ownR 116 3 aN aA.Procs.length (aA.Procs.flatMap Zy),ownR 118 4 aO aA.Ports.length (aA.Ports.flatMap Zs),ownR 3 1 aP aA.Sems.length (aA.Sems.flatMap eI)]) ?_ ?_
  · skip
    refine wp_region_lit (n_q H (Zf rfl ((hS.blk 1 rfl).ldAll Zam Gh)) rfl ?_);clear H a;intro a H
    replace hm:=Zj hm;obtain⟨bD,bZ,hm⟩:=hm
    refine Zi H rfl en57 (Wy (A:=A) (hG.ext hS.x) (⟨_,_,_,_,rfl,((hS.own 2 rfl).slr rfl (fun _ _=>rfl)),((hS.own 3 rfl).slr rfl (fun _ _=>rfl)),((hS.own 4 rfl).slr rfl (fun _ _=>rfl)),((hS.own 5 rfl).slr rfl (fun _ _=>rfl))⟩ : Qs _ [.int .i64 aA.Id,.bool aA.Mobile,aM,aN,aO,.int .i64 aA.Events,aP] aA) bZ) rfl ?_
    clear H;intro bO bE hv;clear a;intro a H;obtain⟨_,rfl,b7⟩:=hv
    replace hS:=hS.new b7;simp only [List.cons_append,List.nil_append] at hS
    refine n_q H (Qq (Jh Tryz.underlying39 rfl rfl (hS.any 0 rfl : IsE A bE bO bD).form) (show _=Value.bool (!decide (bD=.nil)) by rw [Xb.isNil (hS.any 0 rfl : IsE A bE bO bD)])) rfl (W_q (Zc rfl) rfl ?_);clear H a;intro a H
    rcases Bool.eq_false_or_eq_true (!decide (bD=.nil)) with aQ|aQ
    · replace H:=H.know 16 rfl aQ
      replace hm:=Zu hm aQ
      refine Ts H rfl rfl (by decide) rfl (Qc rfl rfl (by decide) rfl (W_q (Zx rfl rfl) rfl (W_q (Zc rfl) rfl (Qc rfl rfl (by decide) rfl (Qc rfl rfl (by decide) rfl (W_q (Zx rfl rfl) rfl ?_))))));clear H a;intro a H
      refine Ze (Za ?_)
      obtain rfl:=Option.some.inj hm;replace hm:=bJ;try dsimp only at hm
      replace hS:=hS.pk6
      replace hS:=hS.pk6
      replace hS:=hS.pk6
      replace hS:=hS.pk6
      replace hS:=hS.pk6
      replace hS:=hS.tk5
      exact Wb true H ⟨rfl,rfl,trivial⟩ ⟨hm,hS⟩
    · replace H:=H.know 16 rfl aQ
      replace hm:=Zv hm aQ
      refine Vg H rfl rfl (n_q H (Zc rfl) rfl (Qw rfl rfl (W_q (Qq (Jh Tryz.underlying39 rfl rfl (hS.any 1 rfl : IsE A bE cK bI.2).form) (show _=Value.bool (!decide (bI.2=.nil)) by rw [Xb.isNil (hS.any 1 rfl : IsE A bE cK bI.2)])) rfl (W_q (Xj rfl rfl) rfl (W_q (Zc rfl) rfl ?_)))));clear H a;intro a H
      rcases Bool.eq_false_or_eq_true (!decide (bI.2=.nil)) with aR|aR
      · replace H:=H.know 20 rfl aR
        replace hm:=Zu hm aR
        refine Ts H rfl rfl (by decide) rfl (Qc rfl rfl (by decide) rfl (W_q (Zx rfl rfl) rfl ?_));clear H a;intro a H
        refine Ze (Za ?_)
        obtain rfl:=Option.some.inj hm;replace hm:=bJ;try dsimp only at hm
        replace hS:=hS.pk6
        replace hS:=hS.pk6
        replace hS:=hS.pk6
        replace hS:=hS.pk6
        replace hS:=hS.pk6
        replace hS:=hS.tk5
        exact Wb true H ⟨rfl,rfl,trivial⟩ ⟨hm,hS⟩
      · replace H:=H.know 20 rfl aR
        replace hm:=Zv hm aR
        refine Vg H rfl rfl (n_q H (Zc rfl) rfl (Qw rfl rfl (W_q (Uv rfl rfl) rfl (W_q (Xj rfl rfl) rfl ?_))));clear H a;intro a H
        refine Ze (Za ?_)
        obtain rfl:=Option.some.inj hm;replace hm:=bJ;try dsimp only at hm
        replace hS:=hS.pk6
        replace hS:=hS.pk6
        replace hS:=hS.pk6
        replace hS:=hS.pk6
        replace hS:=hS.pk6
        replace hS:=hS.tk5
        exact Wb (!decide (bI.1=363)) H ⟨rfl,rfl,trivial⟩ ⟨hm,hS⟩
  · clear H hS hm a;intro bC a dY H hR
    simp only [ent,List.map_cons,List.map_nil] at H;(try dsimp only at hR);obtain⟨hm,hS⟩:=hR;try dsimp only [Ud] at hm
    refine Zl H rfl (fun bF=>?_) (fun bF=>?_)
    · replace hm:=Zu hm bF
      refine wp_seq (wp_region_lit (n_q H (Zb rfl) rfl ?_));clear H a;intro a H
      refine Ze (Za (wp_ret (Zg ?_)))
      obtain rfl:=Option.some.inj hm
      replace hS:=hS.tk0
      refine Xx H (.inr rfl) rfl rfl ?_
      exact⟨rfl,hS.x⟩
    · replace hm:=Zv hm bF
      refine wp_skip (Za (wp_seq (wp_region_lit (n_q H (Zf rfl ((hS.blk 0 rfl).ldAll Zam Gh)) rfl ?_))));clear H a;intro a H
      replace hm:=Zj hm;obtain⟨aB,b8,hm⟩:=hm
      refine Zi H rfl en53 (Zgt (A:=A) (hG.ext hS.x) (⟨_,_,_,_,rfl,((hS.own 1 rfl).slr rfl (fun _ _=>rfl)),((hS.own 2 rfl).slr rfl (fun _ _=>rfl)),((hS.own 3 rfl).slr rfl (fun _ _=>rfl)),((hS.own 4 rfl).slr rfl (fun _ _=>rfl))⟩ : Qs _ [.int .i64 aA.Id,.bool aA.Mobile,aM,aN,aO,.int .i64 aA.Events,aP] aA) b8) rfl ?_
      clear H;intro dZ d5 hv;clear a;intro a H;obtain⟨cR,cT,cU,cV,cW,cX,cY,bP,rfl,b9⟩:=hv
      replace hS:=hS.new b9;simp only [List.cons_append,List.nil_append] at hS
      refine n_q H (Zc rfl) rfl (W_q (Zh rfl rfl) rfl (W_q (Zh rfl rfl) rfl ?_));clear H a;intro a H
      refine Xf H Tz rfl ?_
      clear H;intro d6 d7 hN cA hs;clear a;intro a H
      replace hS:=hS.newBlk hN cA hs;clear hN hs
      refine Zr H rfl rfl (vs:=[.int .i64 aB.1.Id,.int .i64 aB.1.Frame,.int .i64 aB.1.Epoch,cR,cT,cU,cV,cW,cX,cY]) rfl Zch (hS.blk 0 rfl) rfl (by simp [(((hS.own 1 rfl).slr rfl (fun x _=>Hs x))).one,(((hS.own 2 rfl).slr rfl (fun _ _=>rfl))).one,(((hS.own 3 rfl).slr rfl (fun _ _=>rfl))).one,(((hS.own 4 rfl).slr rfl (fun _ _=>rfl))).one,(((hS.own 5 rfl).slr rfl (fun _ _=>rfl))).one,((hS.deepSl 6 rfl)).one,(((hS.own 7 rfl).slr rfl (fun x _=>Uq x))).one]) ?_
      clear H;intro d8 hN cB hz;clear a;intro a H;replace hS:=hS.setBlk hN cB;clear hN hz
      refine n_q H (Zb rfl) rfl ?_;clear H a;intro a H
      refine Ze (Za (wp_seq (wp_region_lit (n_q H (Zf rfl ((hS.blk 9 rfl).ldAll Zam Gh)) rfl ?_))));clear H a;intro a H
      replace hm:=Zj hm;obtain⟨aD,cC,hm⟩:=hm
      refine Zi H rfl en47 (Wz (A:=A) (hG.ext hS.x) (⟨_,_,_,_,rfl,((hS.own 10 rfl).slr rfl (fun _ _=>rfl)),((hS.own 11 rfl).slr rfl (fun _ _=>rfl)),((hS.own 12 rfl).slr rfl (fun _ _=>rfl)),((hS.own 13 rfl).slr rfl (fun _ _=>rfl))⟩ : Qs _ [.int .i64 aA.Id,.bool aA.Mobile,aM,aN,aO,.int .i64 aA.Events,aP] aA) cC) rfl ?_
      clear H;intro d9 bG hv;clear a;intro a H;obtain⟨eA,bQ,rfl,cD⟩:=hv
      replace hS:=hS.new cD;simp only [List.cons_append,List.nil_append] at hS
      refine n_q H (Zc rfl) rfl (W_q (Zh rfl rfl) rfl (W_q (Zh rfl rfl) rfl (W_q (Zb rfl) rfl (W_q (Zb rfl) rfl ?_))));clear H a;intro a H
      refine Ze (Za (wp_seq ?_))
      replace hm:=Zj hm;obtain⟨eC,hm,aC⟩:=hm
      refine Gw (σ:=Bool) H (fun aT=>[(1,.pointer (some ⟨bK,0,none⟩)),(77,.bool aT)]) (fun aT wl=>(Uc aA) aT=some r ∧ St NB w wl [blkR bK [.int .i64 aA.Id,.bool aA.Mobile,aM,aN,aO,.int .i64 aA.Events,aP] 27,ownR 114 2 aM aA.Pages.length (aA.Pages.flatMap Zz),ownR 116 3 aN aA.Procs.length (aA.Procs.flatMap Zy),ownR 118 4 aO aA.Ports.length (aA.Ports.flatMap Zs),ownR 3 1 aP aA.Sems.length (aA.Sems.flatMap eI)]) ?_ ?_
      · skip
        refine wp_region_lit (n_q H (Zc rfl) rfl (W_q (Qq (Jh Tryz.underlying39 rfl rfl (hS.any 10 rfl : IsE A bG bP aB.2).form) (show _=Value.bool (!decide (aB.2=.nil)) by rw [Xb.isNil (hS.any 10 rfl : IsE A bG bP aB.2)])) rfl (W_q (Zc rfl) rfl ?_)));clear H a;intro a H
        rcases Bool.eq_false_or_eq_true (!decide (aB.2=.nil)) with aE|aE
        · replace H:=H.know 36 rfl aE
          replace hm:=Zu hm aE
          refine Ts H rfl rfl (by decide) rfl (Qc rfl rfl (by decide) rfl (W_q (Zx rfl rfl) rfl (W_q (Zc rfl) rfl (Qc rfl rfl (by decide) rfl (Qc rfl rfl (by decide) rfl (Qc rfl rfl (by decide) rfl (Qc rfl rfl (by decide) rfl (W_q (Zx rfl rfl) rfl (W_q (Zc rfl) rfl (Qc rfl rfl (by decide) rfl (Qc rfl rfl (by decide) rfl ?_)))))))))));clear H a;intro a H
          refine Ts H rfl rfl (by decide) rfl (Qc rfl rfl (by decide) rfl (W_q (Zx rfl rfl) rfl (W_q (Zc rfl) rfl (Qc rfl rfl (by decide) rfl (Qc rfl rfl (by decide) rfl (Qc rfl rfl (by decide) rfl (Qc rfl rfl (by decide) rfl (W_q (Zx rfl rfl) rfl (W_q (Zc rfl) rfl (Qc rfl rfl (by decide) rfl (Qc rfl rfl (by decide) rfl ?_)))))))))));clear H a;intro a H
          refine Ts H rfl rfl (by decide) rfl (Qc rfl rfl (by decide) rfl (Qc rfl rfl (by decide) rfl (Qc rfl rfl (by decide) rfl (Qc rfl rfl (by decide) rfl (W_q (Zx rfl rfl) rfl (W_q (Zc rfl) rfl (Qc rfl rfl (by decide) rfl (Qc rfl rfl (by decide) rfl (Qc rfl rfl (by decide) rfl (W_q (Zx rfl rfl) rfl (W_q (Zc rfl) rfl ?_)))))))))));clear H a;intro a H
          refine Ts H rfl rfl (by decide) rfl (Qc rfl rfl (by decide) rfl (Qc rfl rfl (by decide) rfl (Qc rfl rfl (by decide) rfl (W_q (Zx rfl rfl) rfl ?_))));clear H a;intro a H
          refine Ze (Za ?_)
          obtain rfl:=Option.some.inj hm;replace hm:=aC;try dsimp only at hm
          replace hS:=hS.pick 15 rfl;dsimp only [List.eraseIdx] at hS
          replace hS:=hS.pick 15 rfl;dsimp only [List.eraseIdx] at hS
          replace hS:=hS.pick 15 rfl;dsimp only [List.eraseIdx] at hS
          replace hS:=hS.pick 15 rfl;dsimp only [List.eraseIdx] at hS
          replace hS:=hS.pick 15 rfl;dsimp only [List.eraseIdx] at hS
          replace hS:=hS.tk5
          exact Wb true H ⟨rfl,rfl,trivial⟩ ⟨hm,hS⟩
        · replace H:=H.know 36 rfl aE
          replace hm:=Zv hm aE
          refine Vg H rfl rfl (n_q H (Zc rfl) rfl (Qw rfl rfl (W_q (Qq (Jh Tryz.underlying39 rfl rfl (hS.any 1 rfl : IsE A bG bQ aD.2).form) (show _=Value.bool (!decide (aD.2=.nil)) by rw [Xb.isNil (hS.any 1 rfl : IsE A bG bQ aD.2)])) rfl (W_q (Xj rfl rfl) rfl (W_q (Zc rfl) rfl ?_)))));clear H a;intro a H
          rcases Bool.eq_false_or_eq_true (!decide (aD.2=.nil)) with aF|aF
          · replace H:=H.know 40 rfl aF
            replace hm:=Zu hm aF
            refine Ts H rfl rfl (by decide) rfl (Qc rfl rfl (by decide) rfl (Qc rfl rfl (by decide) rfl (Qc rfl rfl (by decide) rfl (W_q (Zx rfl rfl) rfl (W_q (Zc rfl) rfl (Qc rfl rfl (by decide) rfl (Qc rfl rfl (by decide) rfl (Qc rfl rfl (by decide) rfl (Qc rfl rfl (by decide) rfl (W_q (Zx rfl rfl) rfl (W_q (Zc rfl) rfl ?_)))))))))));clear H a;intro a H
            refine Ts H rfl rfl (by decide) rfl (Qc rfl rfl (by decide) rfl (Qc rfl rfl (by decide) rfl (Qc rfl rfl (by decide) rfl (W_q (Zx rfl rfl) rfl (W_q (Zc rfl) rfl (Qc rfl rfl (by decide) rfl (Qc rfl rfl (by decide) rfl (Qc rfl rfl (by decide) rfl (Qc rfl rfl (by decide) rfl (Qc rfl rfl (by decide) rfl (Qc rfl rfl (by decide) rfl ?_)))))))))));clear H a;intro a H
            refine Ts H rfl rfl (by decide) rfl (W_q (Zx rfl rfl) rfl (W_q (Zc rfl) rfl (Qc rfl rfl (by decide) rfl (Qc rfl rfl (by decide) rfl (Qc rfl rfl (by decide) rfl (W_q (Zx rfl rfl) rfl (W_q (Zc rfl) rfl (Qc rfl rfl (by decide) rfl (Qc rfl rfl (by decide) rfl (Qc rfl rfl (by decide) rfl (Qc rfl rfl (by decide) rfl ?_)))))))))));clear H a;intro a H
            refine n_q H (Zx rfl rfl) rfl ?_;clear H a;intro a H
            refine Ze (Za ?_)
            obtain rfl:=Option.some.inj hm;replace hm:=aC;try dsimp only at hm
            replace hS:=hS.pick 15 rfl;dsimp only [List.eraseIdx] at hS
            replace hS:=hS.pick 15 rfl;dsimp only [List.eraseIdx] at hS
            replace hS:=hS.pick 15 rfl;dsimp only [List.eraseIdx] at hS
            replace hS:=hS.pick 15 rfl;dsimp only [List.eraseIdx] at hS
            replace hS:=hS.pick 15 rfl;dsimp only [List.eraseIdx] at hS
            replace hS:=hS.tk5
            exact Wb true H ⟨rfl,rfl,trivial⟩ ⟨hm,hS⟩
          · replace H:=H.know 40 rfl aF
            replace hm:=Zv hm aF
            refine Vg H rfl rfl (n_q H (Zd rfl Zl6) rfl (Qw rfl rfl (W_q (Zf rfl ((hS.blk 2 rfl).ld ag28 rfl)) rfl (Qw rfl rfl ?_))));clear H a;intro a H
            obtain⟨dL,dM,bR,dB,dC⟩:=SlR.formV ((hS.own 3 rfl).slr rfl (fun x _=>Hs x))
            refine n_q H (Qe Tryz.underlying28 rfl bR) rfl (Qw rfl rfl (W_q (Zcp (i:=aB.1.Procs.length) (j:=2) rfl rfl) rfl (W_q (Xj rfl rfl) rfl (W_q (Zc rfl) rfl ?_))));clear H a;intro a H
            rcases Bool.eq_false_or_eq_true (!decide (aB.1.Procs.length=2)) with aG|aG
            · replace H:=H.know 46 rfl aG
              replace hm:=Zu hm aG
              refine Ts H rfl rfl (by decide) rfl (Qc rfl rfl (by decide) rfl (Qc rfl rfl (by decide) rfl (Qc rfl rfl (by decide) rfl (W_q (Zx rfl rfl) rfl (W_q (Zc rfl) rfl (Qc rfl rfl (by decide) rfl (Qc rfl rfl (by decide) rfl (Qc rfl rfl (by decide) rfl (Qc rfl rfl (by decide) rfl (W_q (Zx rfl rfl) rfl (W_q (Zc rfl) rfl ?_)))))))))));clear H a;intro a H
              refine Ts H rfl rfl (by decide) rfl (Qc rfl rfl (by decide) rfl (Qc rfl rfl (by decide) rfl (Qc rfl rfl (by decide) rfl (Qc rfl rfl (by decide) rfl (Qc rfl rfl (by decide) rfl (Qc rfl rfl (by decide) rfl (W_q (Zx rfl rfl) rfl (W_q (Zc rfl) rfl (Qc rfl rfl (by decide) rfl (Qc rfl rfl (by decide) rfl (Qc rfl rfl (by decide) rfl ?_)))))))))));clear H a;intro a H
              refine n_q H (Zx rfl rfl) rfl (W_q (Zc rfl) rfl (Qc rfl rfl (by decide) rfl (Qc rfl rfl (by decide) rfl (Qc rfl rfl (by decide) rfl (Qc rfl rfl (by decide) rfl (W_q (Zx rfl rfl) rfl ?_))))));clear H a;intro a H
              refine Ze (Za ?_)
              obtain rfl:=Option.some.inj hm;replace hm:=aC;try dsimp only at hm
              replace hS:=hS.pick 15 rfl;dsimp only [List.eraseIdx] at hS
              replace hS:=hS.pick 15 rfl;dsimp only [List.eraseIdx] at hS
              replace hS:=hS.pick 15 rfl;dsimp only [List.eraseIdx] at hS
              replace hS:=hS.pick 15 rfl;dsimp only [List.eraseIdx] at hS
              replace hS:=hS.pick 15 rfl;dsimp only [List.eraseIdx] at hS
              replace hS:=hS.tk5
              exact Wb true H ⟨rfl,rfl,trivial⟩ ⟨hm,hS⟩
            · replace H:=H.know 46 rfl aG
              replace hm:=Zv hm aG
              refine Vg H rfl rfl (n_q H (Zd rfl Zl7) rfl (Qw rfl rfl (W_q (Zf rfl ((hS.blk 2 rfl).ld Zgn rfl)) rfl (Qw rfl rfl ?_))));clear H a;intro a H
              obtain⟨dN,dO,bS,dD,dE⟩:=SlR.formV ((hS.own 4 rfl).slr rfl (fun _ _=>rfl))
              refine n_q H (Qe Tryz.underlying25 rfl bS) rfl (Qw rfl rfl (W_q (Zcp (i:=aB.1.Ready.length) (j:=1) rfl rfl) rfl (W_q (Xj rfl rfl) rfl (W_q (Zc rfl) rfl ?_))));clear H a;intro a H
              rcases Bool.eq_false_or_eq_true (!decide (aB.1.Ready.length=1)) with aH|aH
              · replace H:=H.know 52 rfl aH
                replace hm:=Zu hm aH
                refine Ts H rfl rfl (by decide) rfl (Qc rfl rfl (by decide) rfl (Qc rfl rfl (by decide) rfl (Qc rfl rfl (by decide) rfl (W_q (Zx rfl rfl) rfl (W_q (Zc rfl) rfl (Qc rfl rfl (by decide) rfl (Qc rfl rfl (by decide) rfl (Qc rfl rfl (by decide) rfl (Qc rfl rfl (by decide) rfl (Qc rfl rfl (by decide) rfl (Qc rfl rfl (by decide) rfl ?_)))))))))));clear H a;intro a H
                refine Ts H rfl rfl (by decide) rfl (W_q (Zx rfl rfl) rfl (W_q (Zc rfl) rfl (Qc rfl rfl (by decide) rfl (Qc rfl rfl (by decide) rfl (Qc rfl rfl (by decide) rfl (W_q (Zx rfl rfl) rfl (W_q (Zc rfl) rfl (Qc rfl rfl (by decide) rfl (Qc rfl rfl (by decide) rfl (Qc rfl rfl (by decide) rfl (Qc rfl rfl (by decide) rfl ?_)))))))))));clear H a;intro a H
                refine n_q H (Zx rfl rfl) rfl ?_;clear H a;intro a H
                refine Ze (Za ?_)
                obtain rfl:=Option.some.inj hm;replace hm:=aC;try dsimp only at hm
                replace hS:=hS.pick 15 rfl;dsimp only [List.eraseIdx] at hS
                replace hS:=hS.pick 15 rfl;dsimp only [List.eraseIdx] at hS
                replace hS:=hS.pick 15 rfl;dsimp only [List.eraseIdx] at hS
                replace hS:=hS.pick 15 rfl;dsimp only [List.eraseIdx] at hS
                replace hS:=hS.pick 15 rfl;dsimp only [List.eraseIdx] at hS
                replace hS:=hS.tk5
                exact Wb true H ⟨rfl,rfl,trivial⟩ ⟨hm,hS⟩
              · replace H:=H.know 52 rfl aH
                replace hm:=Zv hm aH
                refine Vg H rfl rfl (n_q H (Zd rfl Zj7) rfl (Qw rfl rfl (W_q (Zf rfl ((hS.blk 2 rfl).ld ag32 rfl)) rfl (Qw rfl rfl ?_))));clear H a;intro a H
                obtain⟨dP,dQ,aS,dF,dG⟩:=SlR.formV ((hS.own 9 rfl).slr rfl (fun x _=>Uq x))
                refine n_q H (Qe Tryz.underlying32 rfl aS) rfl (Qw rfl rfl (W_q (Zcp (i:=aB.1.Pages.length) (j:=2) rfl rfl) rfl (W_q (Xj rfl rfl) rfl (W_q (Zc rfl) rfl ?_))));clear H a;intro a H
                rcases Bool.eq_false_or_eq_true (!decide (aB.1.Pages.length=2)) with aI|aI
                · replace H:=H.know 58 rfl aI
                  replace hm:=Zu hm aI
                  refine Ts H rfl rfl (by decide) rfl (Qc rfl rfl (by decide) rfl (Qc rfl rfl (by decide) rfl (Qc rfl rfl (by decide) rfl (Qc rfl rfl (by decide) rfl (Qc rfl rfl (by decide) rfl (Qc rfl rfl (by decide) rfl (W_q (Zx rfl rfl) rfl (W_q (Zc rfl) rfl (Qc rfl rfl (by decide) rfl (Qc rfl rfl (by decide) rfl (Qc rfl rfl (by decide) rfl ?_)))))))))));clear H a;intro a H
                  refine n_q H (Zx rfl rfl) rfl (W_q (Zc rfl) rfl (Qc rfl rfl (by decide) rfl (Qc rfl rfl (by decide) rfl (Qc rfl rfl (by decide) rfl (Qc rfl rfl (by decide) rfl (W_q (Zx rfl rfl) rfl ?_))))));clear H a;intro a H
                  refine Ze (Za ?_)
                  obtain rfl:=Option.some.inj hm;replace hm:=aC;try dsimp only at hm
                  replace hS:=hS.pick 15 rfl;dsimp only [List.eraseIdx] at hS
                  replace hS:=hS.pick 15 rfl;dsimp only [List.eraseIdx] at hS
                  replace hS:=hS.pick 15 rfl;dsimp only [List.eraseIdx] at hS
                  replace hS:=hS.pick 15 rfl;dsimp only [List.eraseIdx] at hS
                  replace hS:=hS.pick 15 rfl;dsimp only [List.eraseIdx] at hS
                  replace hS:=hS.tk5
                  exact Wb true H ⟨rfl,rfl,trivial⟩ ⟨hm,hS⟩
                · replace H:=H.know 58 rfl aI
                  replace hm:=Zv hm aI
                  refine Vg H rfl rfl (n_q H (Zd rfl Zj7) rfl (Qw rfl rfl (W_q (Zf rfl ((hS.blk 2 rfl).ld ag32 rfl)) rfl (Qw rfl rfl ?_))));clear H a;intro a H
                  replace hm:=Zj hm;obtain⟨bL,aV,hm⟩:=hm
                  obtain⟨cZ,bA⟩:=SlR.adV ((hS.own 9 rfl).slr rfl (fun x _=>Uq x)) aS aV
                  refine n_q H (Vw (i:=0) Tryz.underlying32 sz82 rfl aS bA rfl (Zaz aV)) rfl (Qw rfl rfl (W_q (Ve rfl Zpb) rfl (Qw rfl rfl ?_)));clear H a;intro a H
                  replace hm:=Zj hm;obtain⟨cF,bT,hm⟩:=hm
                  obtain⟨h0x1100,h1x1100,bN⟩:=Zgh bT
                  refine n_q H (Zls Tryz.underlying80 sz5 rfl rfl h0x1100 h1x1100) rfl (Qw rfl rfl (W_q (Zf rfl (SlR.ldArrV (o:=2) ((hS.own 9 rfl).slr rfl (fun x _=>Uq x)) aS bA ag5 aV (Zpq (A:=[Value.int .i64 bL.Rights,Value.bool bL.Dirty]) (f:=(fun b : UInt8=>Value.int .u8 (b.toNat : Int))) bN))) rfl (Qw rfl rfl (W_q (Uv rfl rfl) rfl (W_q (Xj rfl rfl) rfl (W_q (Zc rfl) rfl ?_))))));clear H a;intro a H
                  rcases Bool.eq_false_or_eq_true (!decide ((cF.toNat : Int)=98)) with aJ|aJ
                  · replace H:=H.know 67 rfl aJ
                    replace hm:=Zu hm aJ
                    refine Ts H rfl rfl (by decide) rfl (Qc rfl rfl (by decide) rfl (Qc rfl rfl (by decide) rfl (W_q (Zx rfl rfl) rfl (W_q (Zc rfl) rfl (Qc rfl rfl (by decide) rfl (Qc rfl rfl (by decide) rfl (Qc rfl rfl (by decide) rfl (Qc rfl rfl (by decide) rfl (W_q (Zx rfl rfl) rfl ?_)))))))));clear H a;intro a H
                    refine Ze (Za ?_)
                    obtain rfl:=Option.some.inj hm;replace hm:=aC;try dsimp only at hm
                    replace hS:=hS.pick 15 rfl;dsimp only [List.eraseIdx] at hS
                    replace hS:=hS.pick 15 rfl;dsimp only [List.eraseIdx] at hS
                    replace hS:=hS.pick 15 rfl;dsimp only [List.eraseIdx] at hS
                    replace hS:=hS.pick 15 rfl;dsimp only [List.eraseIdx] at hS
                    replace hS:=hS.pick 15 rfl;dsimp only [List.eraseIdx] at hS
                    replace hS:=hS.tk5
                    exact Wb true H ⟨rfl,rfl,trivial⟩ ⟨hm,hS⟩
                  · replace H:=H.know 67 rfl aJ
                    replace hm:=Zv hm aJ
                    refine Vg H rfl rfl (n_q H (Zc rfl) rfl (Qw rfl rfl ?_));clear H a;intro a H
                    obtain⟨cG,cH,aW,dH,dI⟩:=SlR.formV ((hS.own 0 rfl).slr rfl (fun _ _=>rfl))
                    refine n_q H (Qe Tryz.underlying100 rfl aW) rfl (Qw rfl rfl (W_q (Zcp (i:=aD.1.length) (j:=69) rfl rfl) rfl (W_q (Xj rfl rfl) rfl (W_q (Zc rfl) rfl ?_))));clear H a;intro a H
                    rcases Bool.eq_false_or_eq_true (!decide (aD.1.length=69)) with aK|aK
                    · replace H:=H.know 72 rfl aK
                      replace hm:=Zu hm aK
                      refine Ts H rfl rfl (by decide) rfl (Qc rfl rfl (by decide) rfl (Qc rfl rfl (by decide) rfl (Qc rfl rfl (by decide) rfl (W_q (Zx rfl rfl) rfl ?_))));clear H a;intro a H
                      refine Ze (Za ?_)
                      obtain rfl:=Option.some.inj hm;replace hm:=aC;try dsimp only at hm
                      replace hS:=hS.pick 15 rfl;dsimp only [List.eraseIdx] at hS
                      replace hS:=hS.pick 15 rfl;dsimp only [List.eraseIdx] at hS
                      replace hS:=hS.pick 15 rfl;dsimp only [List.eraseIdx] at hS
                      replace hS:=hS.pick 15 rfl;dsimp only [List.eraseIdx] at hS
                      replace hS:=hS.pick 15 rfl;dsimp only [List.eraseIdx] at hS
                      replace hS:=hS.tk5
                      exact Wb true H ⟨rfl,rfl,trivial⟩ ⟨hm,hS⟩
                    · replace H:=H.know 72 rfl aK
                      replace hm:=Zv hm aK
                      refine Vg H rfl rfl (n_q H (Zc rfl) rfl (Qw rfl rfl ?_));clear H a;intro a H
                      replace hm:=Zbm hm;obtain⟨aX,hm⟩:=hm
                      refine n_q H (Zco Tryz.underlying100 sz5 (show _=some (Value.slice cG aD.1.length cH) by rw [← aW];rfl) rfl aX.1 (by omega)) rfl (Qw rfl rfl (W_q (Ziw Tryz.underlying100 Tryz.underlying5 Tryz.underlying9 rfl (fun w' hw=>((SlR.takeV ((hS.own 0 rfl).slr rfl (fun _ _=>rfl)) aW aX.1 aX.2).ext (Zn.mono _) hw))) rfl (Qw rfl rfl (W_q (Zo0 rfl rfl) rfl (W_q (Xj rfl rfl) rfl ?_)))));clear H a;intro a H
                      refine Ze (Za ?_)
                      obtain rfl:=Option.some.inj hm;replace hm:=aC;try dsimp only at hm
                      replace hS:=hS.pick 15 rfl;dsimp only [List.eraseIdx] at hS
                      replace hS:=hS.pick 15 rfl;dsimp only [List.eraseIdx] at hS
                      replace hS:=hS.pick 15 rfl;dsimp only [List.eraseIdx] at hS
                      replace hS:=hS.pick 15 rfl;dsimp only [List.eraseIdx] at hS
                      replace hS:=hS.pick 15 rfl;dsimp only [List.eraseIdx] at hS
                      replace hS:=hS.tk5
                      exact Wb (!decide ((Zcg (aD.1.take (15 : Int).toNat))=⟨#[70,80,76,78,0,1,0,0,0,69,0,0,0,3,1]⟩)) H ⟨rfl,rfl,trivial⟩ ⟨hm,hS⟩
      · clear H hS hm a;intro aT a dR H hR
        simp only [ent,List.map_cons,List.map_nil] at H;(try dsimp only at hR);obtain⟨hm,hS⟩:=hR;try dsimp only [Uc] at hm
        refine Zl H rfl (fun aY=>?_) (fun aY=>?_)
        · replace hm:=Zu hm aY
          refine wp_seq (wp_region_lit (n_q H (Zb rfl) rfl ?_));clear H a;intro a H
          refine Ze (Za (wp_ret (Zg ?_)))
          obtain rfl:=Option.some.inj hm
          replace hS:=hS.tk0
          refine Xx H (.inr rfl) rfl rfl ?_
          exact⟨rfl,hS.x⟩
        · replace hm:=Zv hm aY
          refine wp_skip (Za (wp_seq (wp_region_lit (n_q H (Zd rfl Wx) rfl (W_q (Zf rfl ((hS.blk 0 rfl).ld Zgm rfl)) rfl ?_)))));clear H a;intro a H
          obtain⟨dS,dT,aZ,dJ,dK⟩:=SlR.formV ((hS.own 2 rfl).slr rfl (fun _ _=>rfl))
          replace hm:=Zj hm;obtain⟨aU,a9,hm⟩:=hm
          obtain⟨dA,bB⟩:=SlR.adV ((hS.own 2 rfl).slr rfl (fun _ _=>rfl)) aZ a9
          refine n_q H (Vw (i:=1) Tryz.underlying23 Ha rfl aZ bB rfl (Zaz a9)) rfl (W_q (Ve rfl Zau) rfl ?_);clear H a;intro a H
          replace hS:=hS.pk2
          refine Zkj (e:=Zy) (j:=0) (x':=(⟨66,aU.Prio,aU.Auto⟩ : GProcPlan)) H rfl rfl sz3 (hS.own 0 rfl) aZ bB a9 rfl (fun _=>rfl) (by decide) rfl ?_
          clear H;intro dU hN bU;clear a;intro a H;replace hS:=hS.setOwn hN bU (.inl rfl);clear hN
          refine Ze (Za (wp_seq (wp_region_lit (n_q H (Zf rfl ((hS.blk 1 rfl).ldAll Zam Gh)) rfl ?_))));clear H a;intro a H
          replace hm:=Zj hm;obtain⟨bH,bV,hm⟩:=hm
          refine Zi H rfl en57 (Wy (A:=A) (hG.ext hS.x) (⟨_,_,_,_,rfl,((hS.own 2 rfl).slr rfl (fun _ _=>rfl)),((hS.own 0 rfl).slr rfl (fun _ _=>rfl)),((hS.own 3 rfl).slr rfl (fun _ _=>rfl)),((hS.own 4 rfl).slr rfl (fun _ _=>rfl))⟩ : Qs _ [.int .i64 aA.Id,.bool aA.Mobile,aM,aN,aO,.int .i64 aA.Events,aP] (⟨aA.Id,aA.Mobile,aA.Pages,(aA.Procs.set 1 (⟨66,aU.Prio,aU.Auto⟩ : GProcPlan)),aA.Ports,aA.Events,aA.Sems⟩ : GPlan)) bV) rfl ?_
          clear H;intro bM cI hv;clear a;intro a H;obtain⟨_,rfl,bW⟩:=hv
          replace hS:=hS.new bW;simp only [List.cons_append,List.nil_append] at hS
          refine n_q H (Zb rfl) rfl ?_;clear H a;intro a H
          refine Ze (Za (wp_seq (wp_region_lit (n_q H (Zc rfl) rfl ?_))));clear H a;intro a H
          refine Zi H rfl en56 (code_w (hG.ext hS.x) (hS.any 0 rfl : IsE A cI bM bH)) rfl ?_
          clear H;intro dV cJ hv;clear a;intro a H;obtain⟨rfl,bX⟩:=hv;replace hS:=hS.ext bX
          refine n_q H (Um rfl rfl) rfl (W_q (Zc rfl) rfl ?_);clear H a;intro a H
          rcases Bool.eq_false_or_eq_true (decide ((ErrM.code bH)=4)) with aL|aL
          · replace H:=H.know 87 rfl aL
            replace hm:=Zu hm aL
            refine Vg H rfl rfl (n_q H (Zc rfl) rfl (Qw rfl rfl ?_));clear H a;intro a H
            refine Zi H rfl en60 (Zpo (hH.ext hS.x) (hS.any 0 rfl : IsE A cJ bM bH)) rfl ?_
            clear H;intro dW dX hv;clear a;intro a H;obtain⟨rfl,bY⟩:=hv;replace hS:=hS.ext bY
            refine Vg H rfl rfl (n_q H (Um rfl rfl) rfl (W_q (Zx rfl rfl) rfl (W_q (Zb rfl) rfl ?_)));clear H a;intro a H
            refine Ze (Za (wp_ret ?_))
            obtain rfl:=Option.some.inj hm
            replace hS:=hS.tk0
            refine Xx H (.inr rfl) rfl rfl ?_
            exact⟨rfl,hS.x⟩
          · replace H:=H.know 87 rfl aL
            replace hm:=Zv hm aL
            refine Ts H rfl rfl (by decide) rfl (Qc rfl rfl (by decide) rfl (Qc rfl rfl (by decide) rfl (W_q (Xj rfl rfl) rfl (W_q (Zb rfl) rfl ?_))));clear H a;intro a H
            refine Ze (Za (wp_ret ?_))
            obtain rfl:=Option.some.inj hm
            replace hS:=hS.tk0
            refine Xx H (.inr rfl) rfl rfl ?_
            exact⟨rfl,hS.x⟩
theorem Zd1 {w : World} {A : Nat → Addr} {cs0 : List Value} {a0 : GPlan} (h0 : Qs w cs0 a0) {r : GPlan} (hm : Ht a0=some r) :
    Calls Tryz.prog 14 [.agg cs0.toArray].toArray w (Ret fun u w'=>∃ h_0 h_1 h_2 h_3,u=.agg #[.int .i64 r.Id,.bool r.Mobile,h_0,h_1,h_2,.int .i64 r.Events,h_3] ∧ St NB w w' [ownR 114 2 h_0 r.Pages.length (r.Pages.flatMap Zz),ownR 116 3 h_1 r.Procs.length (r.Procs.flatMap Zy),ownR 118 4 h_2 r.Ports.length (r.Ports.flatMap Zs),ownR 3 1 h_3 r.Sems.length (r.Sems.flatMap eI)]):=by
  obtain⟨aE,aF,aG,aH,rfl,aA,aB,aC,aD⟩:=h0
  have hS:=St.begin NB w
  unfold Ht at hm
  refine enter Tryz.func14 rfl rfl rfl ?_;intro a H;dsimp only [Qn,Nat.zero_add,Nat.reduceAdd] at H
  refine wp_seq (wp_region_lit (Wi H rfl (cs:=[.int .i64 a0.Id,.bool a0.Mobile,aE,aF,aG,.int .i64 a0.Events,aH]) rfl rfl ?_))
  clear H;intro bE bF hN aM hs;clear a;intro a H
  replace hS:=hS.newBlk hN aM hs;clear hN hs
  refine Xf H Zi3 rfl ?_
  clear H;intro bG bH hN aN hs;clear a;intro a H
  replace hS:=hS.newBlk hN aN hs;clear hN hs
  refine Ze (Za (wp_seq (wp_region_lit (Qf H Tryz.underlying22 Gm Zd7 rfl rfl rfl (cs:=[]) rfl rfl ?_))))
  clear H;intro bI bJ hN aO hs;clear a;intro a H
  replace hS:=hS.newBlk hN aO hs;clear hN hs
  replace hS:=hS.blkOwnL (e:=Zz) (k:=2) ([] : List GPagePlan) rfl rfl (by simp [maxLen])
  refine n_q H (Zd rfl Vz) rfl (W_q (Zf rfl ((hS.blk 2 rfl).ld Zfb rfl)) rfl ?_);clear H a;intro a H
  replace hm:=Zbm hm;obtain⟨aP,hm⟩:=hm
  refine Zcr (e:=Zz) H rfl rfl Tryz.underlying22 Tryz.underlying22 (by simp) el114 (hS.own 0 rfl) ((aA.ext (Zn.mono _) hS.x).src (fun _ _=>rfl)) Zbw aP (by simp only [maxLen];omega) rfl ?_
  clear H;intro aI bK hN aQ hb;clear a;intro a H;replace hS:=hS.setOwn hN aQ hb;clear hN hb
  refine n_q H (Zd rfl Vz) rfl ?_;clear H a;intro a H
  replace hS:=hS.pk2
  refine Kj H rfl rfl sz22 (hS.blk 0 rfl) (by simp) (((hS.own 1 rfl).slr rfl (fun _ _=>rfl))).one ?_
  clear H;intro bL hN aR hz;clear a;intro a H;replace hS:=hS.setBlk hN aR;clear hN hz
  try simp only [List.set_cons_succ,List.set_cons_zero] at hS
  refine Ze (Za (wp_seq (wp_region_lit (Qf H Tryz.underlying23 Ha Zd8 rfl rfl rfl (cs:=[]) rfl rfl ?_))))
  clear H;intro bM bN hN aS hs;clear a;intro a H
  replace hS:=hS.newBlk hN aS hs;clear hN hs
  replace hS:=hS.blkOwnL (e:=Zy) (k:=3) ([] : List GProcPlan) rfl rfl (by simp [maxLen])
  refine n_q H (Zd rfl Wx) rfl (W_q (Zf rfl ((hS.blk 1 rfl).ld Zgm rfl)) rfl ?_);clear H a;intro a H
  replace hm:=Zbm hm;obtain⟨aT,hm⟩:=hm
  refine Zcr (e:=Zy) H rfl rfl Tryz.underlying23 Tryz.underlying23 (by simp) el116 (hS.own 0 rfl) ((aB.ext (Zn.mono _) hS.x).src (fun _ _=>rfl)) Zbx aT (by simp only [maxLen];omega) rfl ?_
  clear H;intro aJ bO hN aU hb;clear a;intro a H;replace hS:=hS.setOwn hN aU hb;clear hN hb
  refine n_q H (Zd rfl Wx) rfl ?_;clear H a;intro a H
  replace hS:=hS.pk1
  refine Kj H rfl rfl sz23 (hS.blk 0 rfl) (by simp) (((hS.own 1 rfl).slr rfl (fun _ _=>rfl))).one ?_
  clear H;intro bP hN aV hz;clear a;intro a H;replace hS:=hS.setBlk hN aV;clear hN hz
  try simp only [List.set_cons_succ,List.set_cons_zero] at hS
  refine Ze (Za (wp_seq (wp_region_lit (Qf H Tryz.underlying24 Wp Zer rfl rfl rfl (cs:=[]) rfl rfl ?_))))
  clear H;intro bQ bR hN aW hs;clear a;intro a H
  replace hS:=hS.newBlk hN aW hs;clear hN hs
  replace hS:=hS.blkOwnL (e:=Zs) (k:=4) ([] : List GPortPlan) rfl rfl (by simp [maxLen])
  refine n_q H (Zd rfl Gb) rfl (W_q (Zf rfl ((hS.blk 1 rfl).ld Zhr rfl)) rfl ?_);clear H a;intro a H
  replace hm:=Zbm hm;obtain⟨aX,hm⟩:=hm
  refine Zcr (e:=Zs) H rfl rfl Tryz.underlying24 Tryz.underlying24 (by simp) el118 (hS.own 0 rfl) ((aC.ext (Zn.mono _) hS.x).src (fun _ _=>rfl)) Zby aX (by simp only [maxLen];omega) rfl ?_
  clear H;intro aK bS hN aY hb;clear a;intro a H;replace hS:=hS.setOwn hN aY hb;clear hN hb
  refine n_q H (Zd rfl Gb) rfl ?_;clear H a;intro a H
  replace hS:=hS.pk1
  refine Kj H rfl rfl sz24 (hS.blk 0 rfl) (by simp) (((hS.own 1 rfl).slr rfl (fun _ _=>rfl))).one ?_
  clear H;intro bT hN aZ hz;clear a;intro a H;replace hS:=hS.setBlk hN aZ;clear hN hz
  try simp only [List.set_cons_succ,List.set_cons_zero] at hS
  refine Ze (Za (wp_seq (wp_region_lit (Qf H Tryz.underlying25 sz3 ze3 rfl rfl rfl (cs:=[]) rfl rfl ?_))))
  clear H;intro bU bV hN a9 hs;clear a;intro a H
  replace hS:=hS.newBlk hN a9 hs;clear hN hs
  replace hS:=hS.blkOwnL (e:=eI) (k:=1) ([] : List Int) rfl rfl (by simp [maxLen])
  refine n_q H (Zd rfl Gc) rfl (W_q (Zf rfl ((hS.blk 1 rfl).ld Zgn rfl)) rfl ?_);clear H a;intro a H
  replace hm:=Zbm hm;obtain⟨bA,hm⟩:=hm
  refine Zcr (e:=eI) H rfl rfl Tryz.underlying25 Tryz.underlying25 (by simp) el3 (hS.own 0 rfl) ((aD.ext (Zn.mono _) hS.x).src (fun _ _=>rfl)) Zjy bA (by simp only [maxLen];omega) rfl ?_
  clear H;intro aL bW hN bB hb;clear a;intro a H;replace hS:=hS.setOwn hN bB hb;clear hN hb
  refine n_q H (Zd rfl Gc) rfl ?_;clear H a;intro a H
  replace hS:=hS.pk1
  refine Kj H rfl rfl sz25 (hS.blk 0 rfl) (by simp) (((hS.own 1 rfl).slr rfl (fun _ _=>rfl))).one ?_
  clear H;intro bX hN bC hz;clear a;intro a H;replace hS:=hS.setBlk hN bC;clear hN hz
  try simp only [List.set_cons_succ,List.set_cons_zero] at hS
  refine Ze (Za (wp_seq (wp_region_lit (n_q H (Zf rfl ((hS.blk 0 rfl).ldAll Zam Gh)) rfl ?_))));clear H a;intro a H
  replace hS:=hS.pk5
  refine Zr H rfl rfl (vs:=[.int .i64 a0.Id,.bool a0.Mobile,aI,aJ,aK,.int .i64 a0.Events,aL]) rfl Gh (hS.blk 0 rfl) rfl (by simp [(((hS.own 5 rfl).slr rfl (fun _ _=>rfl))).one,(((hS.own 4 rfl).slr rfl (fun _ _=>rfl))).one,(((hS.own 3 rfl).slr rfl (fun _ _=>rfl))).one,(((hS.own 2 rfl).slr rfl (fun _ _=>rfl))).one]) ?_
  clear H;intro bY hN bD hz;clear a;intro a H;replace hS:=hS.setBlk hN bD;clear hN hz
  refine Ze (Za (wp_ret ?_))
  obtain rfl:=Option.some.inj hm
  replace hS:=hS.pk2
  replace hS:=hS.pk3
  replace hS:=hS.pk4
  replace hS:=hS.pk5
  replace hS:=hS.tk5
  refine Zae H (.inr rfl) rfl (vs:=[.agg #[.int .i64 a0.Id,.bool a0.Mobile,aI,aJ,aK,.int .i64 a0.Events,aL]]) (Xh rfl ((hS.blk 4 rfl).ldAll Zam Gh) Xt) ?_
  replace hS:=hS.tk4
  exact⟨_,_,_,_,rfl,hS⟩
theorem Ui {w : World} {A : Nat → Addr} {a0 : Int} {r : GR10Err} (hm : Yh a0=some r) :
    Calls Tryz.prog 118 [.int .i64 a0].toArray w (Ret fun u w'=>u=.agg (Hm r).toArray ∧ Ext w w'):=by
  have hS:=St.begin NB w
  unfold Yh at hm
  refine enter Tryz.func118 rfl rfl rfl ?_;intro a H;dsimp only [Qn,Nat.zero_add,Nat.reduceAdd] at H
  refine wp_seq (wp_region_lit (Xf H Zcc rfl ?_))
  clear H;intro aC aD hN aA hs;clear a;intro a H
  replace hS:=hS.newBlk hN aA hs;clear hN hs
  refine Ze (Za (wp_seq (wp_region_lit (n_q H (Zc rfl) rfl (W_q (Qd (cs:=[.int .i64 a0,.int .i64 (-1)]) Zcc Zi4 Zi5 rfl (by kernel_rfl)) rfl ?_)))));clear H a;intro a H
  refine Zr H rfl rfl (vs:=[.int .i64 a0,.int .i64 (-1)]) rfl Yi (hS.blk 0 rfl) rfl (by simp) ?_
  clear H;intro aE hN aB hz;clear a;intro a H;replace hS:=hS.setBlk hN aB;clear hN hz
  refine Ze (Za (wp_ret ?_))
  obtain rfl:=Option.some.inj hm
  refine Zae H (.inr rfl) rfl (vs:=[.agg #[.int .i64 a0,.int .i64 (-1)]]) (Xh rfl ((hS.blk 0 rfl).ldAll Ty Yi) Xt) ?_
  replace hS:=hS.tk0
  exact⟨rfl,hS.x⟩
theorem Hb {w : World} {A : Nat → Addr} {r : GR10Err} (hm : Ye=some r) :
    Calls Tryz.prog 124 [].toArray w (Ret fun u w'=>u=.agg (Hm r).toArray ∧ Ext w w'):=by
  have hS:=St.begin NB w
  unfold Ye at hm
  refine enter Tryz.func124 rfl rfl rfl ?_;intro a H;dsimp only [Qn,Nat.zero_add,Nat.reduceAdd] at H
  refine wp_seq (wp_region_lit (Xf H Zcc rfl ?_))
  clear H;intro aC aD hN aA hs;clear a;intro a H
  replace hS:=hS.newBlk hN aA hs;clear hN hs
  refine Ze (Za (wp_seq (wp_region_lit (n_q H (Qd (cs:=[.int .i64 0,.int .i64 (-1)]) Zcc Zi4 Zi5 rfl (by kernel_rfl)) rfl ?_))));clear H a;intro a H
  refine Zr H rfl rfl (vs:=[.int .i64 0,.int .i64 (-1)]) rfl Yi (hS.blk 0 rfl) rfl (by simp) ?_
  clear H;intro aE hN aB hz;clear a;intro a H;replace hS:=hS.setBlk hN aB;clear hN hz
  refine Ze (Za (wp_ret ?_))
  obtain rfl:=Option.some.inj hm
  refine Zae H (.inr rfl) rfl (vs:=[.agg #[.int .i64 0,.int .i64 (-1)]]) (Xh rfl ((hS.blk 0 rfl).ldAll Ty Yi) Xt) ?_
  replace hS:=hS.tk0
  exact⟨rfl,hS.x⟩
theorem Zgu {w : World} {A : Nat → Addr} {cs0 : List Value} {a0 : GPlan} (h0 : Qs w cs0 a0) {r : GR10Err} (hm : Te a0=some r) :
    Calls Tryz.prog 119 [.agg cs0.toArray].toArray w (Ret fun u w'=>u=.agg (Hm r).toArray ∧ Ext w w'):=by
  obtain⟨aE,aF,aG,aH,rfl,aC,bN,bO,bP⟩:=h0
  have hS:=St.begin NB w
  unfold Te at hm
  refine enter Tryz.func119 rfl rfl rfl ?_;intro a H;dsimp only [Qn,Nat.zero_add,Nat.reduceAdd] at H
  refine wp_seq (wp_region_lit (Wi H rfl (cs:=[.int .i64 a0.Id,.bool a0.Mobile,aE,aF,aG,.int .i64 a0.Events,aH]) rfl rfl ?_))
  clear H;intro aW cC hN bF hs;clear a;intro a H
  replace hS:=hS.newBlk hN bF hs;clear hN hs
  refine Xf H Zcc rfl ?_
  clear H;intro aX cD hN bG hs;clear a;intro a H
  replace hS:=hS.newBlk hN bG hs;clear hN hs
  refine Ze (Za (wp_seq (wp_seq (wp_region_lit (n_c H (fun HC=>?_))))));clear H
  refine Hx HC (Zd rfl Vz) rfl (by kernel_rfl) (V_q (Zf rfl ((hS.blk 1 rfl).ld Zfb rfl)) rfl (by kernel_rfl) ?_);clear HC a;intro a HC
  obtain⟨cF,cG,aB,bX,bY⟩:=SlR.formV (aC.ext (Zn.mono _) hS.x)
  refine Hx HC (Qe Tryz.underlying22 rfl aB) rfl (by kernel_rfl) (V_q (Jr (i:=a0.Pages.length) (j:=1) rfl rfl) rfl (by kernel_rfl) (V_q (Zc rfl) rfl (by kernel_rfl) (V_g (Zd rfl Vz) (by kernel_rfl) (by kernel_rfl) (by kernel_rfl) (V_g (Zf rfl ((hS.blk 1 rfl).ld Zfb rfl)) (by kernel_rfl) (by kernel_rfl) (by kernel_rfl) (V_g (Qe Tryz.underlying22 rfl aB) (by kernel_rfl) (by kernel_rfl) (by kernel_rfl) (V_g (Za6 (i:=a0.Pages.length) (j:=32) rfl rfl) (by kernel_rfl) (by kernel_rfl) (by kernel_rfl) (Zdd (j:=4) rfl rfl rfl (by kernel_rfl) (by kernel_rfl) ?_)))))));clear HC a;intro a HC
  have H:=HC.has;clear HC
  refine Ze (Za (Zl H rfl (fun aU=>?_) (fun aU=>?_)))
  · replace hm:=Zu hm aU
    refine wp_seq (wp_region_lit ?_)
    replace hm:=Zj hm;obtain⟨aY,bH,hm⟩:=hm
    refine Zi H rfl Zi6 (Ui (A:=A) bH) rfl ?_
    clear H;intro cH cI hv;clear a;intro a H;obtain⟨rfl,bI⟩:=hv
    replace hS:=hS.ext bI
    refine Zr H rfl rfl (vs:=[.int .i64 aY.Code,.int .i64 aY.Place]) rfl Yi (hS.blk 0 rfl) rfl (by simp) ?_
    clear H;intro cJ hN bJ hz;clear a;intro a H;replace hS:=hS.setBlk hN bJ;clear hN hz
    refine Ze (Za (wp_ret (Zg ?_)))
    obtain rfl:=Option.some.inj hm
    replace hS:=hS.tk1
    refine Zae H (.inr rfl) rfl (vs:=[.agg #[.int .i64 aY.Code,.int .i64 aY.Place]]) (Xh rfl ((hS.blk 0 rfl).ldAll Ty Yi) Xt) ?_
    replace hS:=hS.tk0
    exact⟨rfl,hS.x⟩
  · replace hm:=Zv hm aU
    refine wp_skip (Za (wp_seq (wp_seq (wp_region_lit (n_q H (Zb rfl) rfl ?_)))));clear H a;intro a H
    refine Ze (Za (wp_block ?_))
    replace hS:=hS.pk1
    replace hm:=Zj hm;obtain⟨aZ,hm,aV⟩:=hm;replace hm:=Qk hm;obtain⟨bQ,hm⟩:=hm
    refine Kn (σ:=Nat × Nat) (fun (m,aA)=>[(1,.pointer (some ⟨aW,0,none⟩)),(2,.pointer (some ⟨aX,0,none⟩)),(3,.int .i64 ((aA : Nat) : Int))]) (fun (m,aA) wl=>Kq (Yz a0) m aA=some aZ ∧ St NB w wl [blkR aW [.int .i64 a0.Id,.bool a0.Mobile,aE,aF,aG,.int .i64 a0.Events,aH] 27,blkR aX [.int .i64 0,.int .i64 0] 124]) (fun (m,aA)=>m) (bQ,0) H ⟨rfl,rfl,rfl,trivial⟩ ⟨hm,hS⟩ ?_
    clear H hS hm a;intro xx a cK H hR;obtain⟨m,aA⟩:=xx;simp only [ent,List.map_cons,List.map_nil] at H;(try dsimp only at hR);obtain⟨hm,hS⟩:=hR
    replace hm:=Qi hm;obtain⟨bR,bS,rfl,hm,aI⟩:=hm;try dsimp only [Yz] at hm
    refine wp_seq (wp_seq (wp_region_lit (n_q H (Zc rfl) rfl (W_q (Zd rfl Vz) rfl (W_q (Zf rfl ((hS.blk 0 rfl).ld Zfb rfl)) rfl (W_q (Qe Tryz.underlying22 rfl aB) rfl (W_q (Jr (i:=aA) (j:=a0.Pages.length) rfl rfl) rfl ?_)))))));clear H a;intro a H
    refine Ze (Za (Zl H rfl (fun aJ=>?_) (fun aJ=>?_)))
    · replace hm:=Zu hm aJ
      have bW : aA < a0.Pages.length:=of_decide_eq_true aJ
      refine wp_skip (Za (wp_seq (wp_block (wp_seq ?_))))
      replace hm:=Zj hm;obtain⟨cL,hm,a9⟩:=hm
      refine Gw (σ:=Bool) H (fun aK=>[(1,.pointer (some ⟨aW,0,none⟩)),(2,.pointer (some ⟨aX,0,none⟩)),(3,.int .i64 ((aA : Nat) : Int)),(37,.bool aK)]) (fun aK wl=>(Uy a0 aA) aK=some bS ∧ St NB w wl [blkR aW [.int .i64 a0.Id,.bool a0.Mobile,aE,aF,aG,.int .i64 a0.Events,aH] 27,blkR aX [.int .i64 0,.int .i64 0] 124]) ?_ ?_
      · skip
        refine wp_region_lit (n_q H (Zd rfl Vz) rfl (W_q (Zf rfl ((hS.blk 0 rfl).ld Zfb rfl)) rfl (W_q (Zc rfl) rfl ?_)));clear H a;intro a H
        replace hm:=Zj hm;obtain⟨bK,aL,hm⟩:=hm
        obtain⟨bT,aR⟩:=SlR.adV (aC.ext (Zn.mono _) hS.x) aB aL
        refine n_q H (Vw (i:=aA) Tryz.underlying22 Gm rfl aB aR rfl (Zaz aL)) rfl (W_q (Ve rfl Zdj) rfl (W_q (Zf rfl (SlR.ldCellV (j:=0) (aC.ext (Zn.mono _) hS.x) aB aR ag3 aL rfl)) rfl (W_q (Ue rfl rfl) rfl (W_q (Zc rfl) rfl ?_))));clear H a;intro a H
        rcases Bool.eq_false_or_eq_true (decide (bK.Rights < 0)) with aD|aD
        · replace H:=H.know 29 rfl aD
          replace hm:=Zu hm aD
          refine Ts H rfl rfl (by decide) rfl (Qc rfl rfl (by decide) rfl (Qc rfl rfl (by decide) rfl (Qc rfl rfl (by decide) rfl (Qc rfl rfl (by decide) rfl (Qc rfl rfl (by decide) rfl (Qc rfl rfl (by decide) rfl (W_q (Zx rfl rfl) rfl ?_)))))));clear H a;intro a H
          refine Ze (Za ?_)
          obtain rfl:=Option.some.inj hm;replace hm:=a9;try dsimp only at hm
          exact Wb true H ⟨rfl,rfl,rfl,rfl,trivial⟩ ⟨hm,hS⟩
        · replace H:=H.know 29 rfl aD
          replace hm:=Zv hm aD
          refine Vg H rfl rfl (n_q H (Zd rfl Vz) rfl (Qw rfl rfl (W_q (Zf rfl ((hS.blk 0 rfl).ld Zfb rfl)) rfl (Qw rfl rfl (W_q (Zc rfl) rfl (Qw rfl rfl ?_))))));clear H a;intro a H
          replace hm:=Zj hm;obtain⟨bL,aM,hm⟩:=hm
          obtain⟨bU,aS⟩:=SlR.adV (aC.ext (Zn.mono _) hS.x) aB aM
          refine n_q H (Vw (i:=aA) Tryz.underlying22 Gm rfl aB aS rfl (Zaz aM)) rfl (Qw rfl rfl (W_q (Ve rfl Zdj) rfl (Qw rfl rfl (W_q (Zf rfl (SlR.ldCellV (j:=0) (aC.ext (Zn.mono _) hS.x) aB aS ag3 aM rfl)) rfl (Qw rfl rfl (W_q (Gv rfl rfl) rfl (W_q (Xj rfl rfl) rfl ?_)))))));clear H a;intro a H
          refine Ze (Za ?_)
          obtain rfl:=Option.some.inj hm;replace hm:=a9;try dsimp only at hm
          exact Wb (decide (7 < bL.Rights)) H ⟨rfl,rfl,rfl,rfl,trivial⟩ ⟨hm,hS⟩
      · clear H hS hm a;intro aK a bZ H hR
        simp only [ent,List.map_cons,List.map_nil] at H;(try dsimp only at hR);obtain⟨hm,hS⟩:=hR;try dsimp only [Uy] at hm
        refine Zl H rfl (fun aN=>?_) (fun aN=>?_)
        · replace hm:=Zu hm aN
          refine wp_seq (wp_region_lit (n_q H (Zc rfl) rfl (W_q (Qd (cs:=[.int .i64 4,.int .i64 ((aA : Nat) : Int)]) Zcc Zi4 Zi5 rfl (by kernel_rfl)) rfl ?_)));clear H a;intro a H
          replace hS:=hS.pk1
          refine Zr H rfl rfl (vs:=[.int .i64 4,.int .i64 ((aA : Nat) : Int)]) rfl Yi (hS.blk 0 rfl) rfl (by simp) ?_
          clear H;intro b7 hN bA hz;clear a;intro a H;replace hS:=hS.setBlk hN bA;clear hN hz
          refine Ze (Za (wp_ret (Zg (Zm (Zg (Zg (Zm (Zg ?_))))))))
          obtain rfl:=Option.some.inj hm;have hz : _=aZ:=aI;subst hz;replace hm:=aV;try dsimp only at hm
          obtain rfl:=Option.some.inj hm
          replace hS:=hS.tk1
          refine Zae H (.inr rfl) rfl (vs:=[.agg #[.int .i64 4,.int .i64 ((aA : Nat) : Int)]]) (Xh rfl ((hS.blk 0 rfl).ldAll Ty Yi) Xt) ?_
          replace hS:=hS.tk0
          exact⟨rfl,hS.x⟩
        · replace hm:=Zv hm aN
          refine wp_skip (Za (wp_seq (wp_region_lit (n_q H (Zd rfl Vz) rfl (W_q (Zf rfl ((hS.blk 0 rfl).ld Zfb rfl)) rfl (W_q (Zc rfl) rfl ?_))))));clear H a;intro a H
          replace hm:=Zj hm;obtain⟨bM,aO,hm⟩:=hm
          obtain⟨bV,aT⟩:=SlR.adV (aC.ext (Zn.mono _) hS.x) aB aO
          refine n_q H (Vw (i:=aA) Tryz.underlying22 Gm rfl aB aT rfl (Zaz aO)) rfl (W_q (Ve rfl Zgo) rfl (W_q (Zf rfl (SlR.ldCellV (j:=1) (aC.ext (Zn.mono _) hS.x) aB aT ag9 aO rfl)) rfl (W_q (Zo1 Tryz.underlying9 rfl) rfl (W_q (Za6 (i:=bM.Init.size) (j:=64) rfl rfl) rfl ?_))));clear H a;intro a H
          refine Ze (Za (Zl H rfl (fun aP=>?_) (fun aP=>?_)))
          · replace hm:=Zu hm aP
            refine wp_seq (wp_region_lit (n_q H (Zc rfl) rfl (W_q (Qd (cs:=[.int .i64 5,.int .i64 ((aA : Nat) : Int)]) Zcc Zi4 Zi5 rfl (by kernel_rfl)) rfl ?_)));clear H a;intro a H
            replace hS:=hS.pk1
            refine Zr H rfl rfl (vs:=[.int .i64 5,.int .i64 ((aA : Nat) : Int)]) rfl Yi (hS.blk 0 rfl) rfl (by simp) ?_
            clear H;intro b8 hN bB hz;clear a;intro a H;replace hS:=hS.setBlk hN bB;clear hN hz
            refine Ze (Za (wp_ret (Zm (Zg (Zg (Zm (Zg ?_)))))))
            obtain rfl:=Option.some.inj hm;have hz : _=aZ:=aI;subst hz;replace hm:=aV;try dsimp only at hm
            obtain rfl:=Option.some.inj hm
            replace hS:=hS.tk1
            refine Zae H (.inr rfl) rfl (vs:=[.agg #[.int .i64 5,.int .i64 ((aA : Nat) : Int)]]) (Xh rfl ((hS.blk 0 rfl).ldAll Ty Yi) Xt) ?_
            replace hS:=hS.tk0
            exact⟨rfl,hS.x⟩
          · replace hm:=Zv hm aP
            refine wp_skip (Zo (Za (wp_region_lit (n_q H (Zc rfl) rfl (W_q (Yn (i:=aA) (j:=1) rfl rfl (by omega)) rfl (W_q (Zb rfl) rfl ?_))))));clear H a;intro a H
            refine Ze (Za ?_)
            obtain rfl:=Option.some.inj hm
            exact Wv (bR,aA + 1) H ⟨rfl,rfl,rfl,trivial⟩ ⟨aI,hS⟩ (Nat.lt_succ_self _)
    · replace hm:=Zv hm aJ
      refine wp_exit (Zq (Zq (Qg ?_)))
      obtain rfl:=Option.some.inj hm;have hz : _=aZ:=aI;subst hz;replace hm:=aV;try dsimp only at hm
      refine Za (wp_seq (wp_region_lit ?_))
      replace hm:=Zj hm;obtain⟨aQ,bC,hm⟩:=hm
      refine Zi H rfl Zl5 (Hb (A:=A) bC) rfl ?_
      clear H;intro b9 cA hv;clear a;intro a H;obtain⟨rfl,bD⟩:=hv
      replace hS:=hS.ext bD
      replace hS:=hS.pk1
      refine Zr H rfl rfl (vs:=[.int .i64 aQ.Code,.int .i64 aQ.Place]) rfl Yi (hS.blk 0 rfl) rfl (by simp) ?_
      clear H;intro cB hN bE hz;clear a;intro a H;replace hS:=hS.setBlk hN bE;clear hN hz
      refine Ze (Za (wp_ret ?_))
      obtain rfl:=Option.some.inj hm
      replace hS:=hS.tk1
      refine Zae H (.inr rfl) rfl (vs:=[.agg #[.int .i64 aQ.Code,.int .i64 aQ.Place]]) (Xh rfl ((hS.blk 0 rfl).ldAll Ty Yi) Xt) ?_
      replace hS:=hS.tk0
      exact⟨rfl,hS.x⟩
theorem Zgv {w : World} {A : Nat → Addr} {cs0 : List Value} {a0 : GPlan} (h0 : Qs w cs0 a0) {r : GR10Err} (hm : Tf a0=some r) :
    Calls Tryz.prog 120 [.agg cs0.toArray].toArray w (Ret fun u w'=>u=.agg (Hm r).toArray ∧ Ext w w'):=by
  obtain⟨aJ,aK,aL,aM,rfl,aY,aH,bM,bN⟩:=h0
  have hS:=St.begin NB w
  unfold Tf at hm
  refine enter Tryz.func120 rfl rfl rfl ?_;intro a H;dsimp only [Qn,Nat.zero_add,Nat.reduceAdd] at H
  refine wp_seq (wp_region_lit (Wi H rfl (cs:=[.int .i64 a0.Id,.bool a0.Mobile,aJ,aK,aL,.int .i64 a0.Events,aM]) rfl rfl ?_))
  clear H;intro aU cB hN bF hs;clear a;intro a H
  replace hS:=hS.newBlk hN bF hs;clear hN hs
  refine Xf H Zcc rfl ?_
  clear H;intro aV cC hN bG hs;clear a;intro a H
  replace hS:=hS.newBlk hN bG hs;clear hN hs
  refine Ze (Za (wp_seq (wp_seq (wp_region_lit (n_c H (fun HC=>?_))))));clear H
  refine Hx HC (Zd rfl Wx) rfl (by kernel_rfl) (V_q (Zf rfl ((hS.blk 1 rfl).ld Zgm rfl)) rfl (by kernel_rfl) ?_);clear HC a;intro a HC
  obtain⟨cD,cF,aF,bV,bW⟩:=SlR.formV (aH.ext (Zn.mono _) hS.x)
  refine Hx HC (Qe Tryz.underlying23 rfl aF) rfl (by kernel_rfl) (V_q (Jr (i:=a0.Procs.length) (j:=1) rfl rfl) rfl (by kernel_rfl) (V_q (Zc rfl) rfl (by kernel_rfl) (V_g (Zd rfl Wx) (by kernel_rfl) (by kernel_rfl) (by kernel_rfl) (V_g (Zf rfl ((hS.blk 1 rfl).ld Zgm rfl)) (by kernel_rfl) (by kernel_rfl) (by kernel_rfl) (V_g (Qe Tryz.underlying23 rfl aF) (by kernel_rfl) (by kernel_rfl) (by kernel_rfl) (V_g (Za6 (i:=a0.Procs.length) (j:=8) rfl rfl) (by kernel_rfl) (by kernel_rfl) (by kernel_rfl) (Zdd (j:=4) rfl rfl rfl (by kernel_rfl) (by kernel_rfl) ?_)))))));clear HC a;intro a HC
  have H:=HC.has;clear HC
  refine Ze (Za (Zl H rfl (fun aR=>?_) (fun aR=>?_)))
  · replace hm:=Zu hm aR
    refine wp_seq (wp_region_lit ?_)
    replace hm:=Zj hm;obtain⟨aW,bH,hm⟩:=hm
    refine Zi H rfl Zi6 (Ui (A:=A) bH) rfl ?_
    clear H;intro cG cH hv;clear a;intro a H;obtain⟨rfl,bI⟩:=hv
    replace hS:=hS.ext bI
    refine Zr H rfl rfl (vs:=[.int .i64 aW.Code,.int .i64 aW.Place]) rfl Yi (hS.blk 0 rfl) rfl (by simp) ?_
    clear H;intro cI hN bJ hz;clear a;intro a H;replace hS:=hS.setBlk hN bJ;clear hN hz
    refine Ze (Za (wp_ret (Zg ?_)))
    obtain rfl:=Option.some.inj hm
    replace hS:=hS.tk1
    refine Zae H (.inr rfl) rfl (vs:=[.agg #[.int .i64 aW.Code,.int .i64 aW.Place]]) (Xh rfl ((hS.blk 0 rfl).ldAll Ty Yi) Xt) ?_
    replace hS:=hS.tk0
    exact⟨rfl,hS.x⟩
  · replace hm:=Zv hm aR
    refine wp_skip (Za (wp_seq (wp_seq (wp_region_lit (n_q H (Zb rfl) rfl ?_)))));clear H a;intro a H
    refine Ze (Za (wp_block ?_))
    replace hS:=hS.pk1
    replace hm:=Zj hm;obtain⟨aZ,hm,a9⟩:=hm;replace hm:=Qk hm;obtain⟨bO,hm⟩:=hm
    refine Kn (σ:=Nat × Nat) (fun (m,aA)=>[(1,.pointer (some ⟨aU,0,none⟩)),(2,.pointer (some ⟨aV,0,none⟩)),(3,.int .i64 ((aA : Nat) : Int))]) (fun (m,aA) wl=>Kq (Vr a0) m aA=some aZ ∧ St NB w wl [blkR aU [.int .i64 a0.Id,.bool a0.Mobile,aJ,aK,aL,.int .i64 a0.Events,aM] 27,blkR aV [.int .i64 0,.int .i64 0] 124]) (fun (m,aA)=>m) (bO,0) H ⟨rfl,rfl,rfl,trivial⟩ ⟨hm,hS⟩ ?_
    clear H hS hm a;intro xx a cJ H hR;obtain⟨m,aA⟩:=xx;simp only [ent,List.map_cons,List.map_nil] at H;(try dsimp only at hR);obtain⟨hm,hS⟩:=hR
    replace hm:=Qi hm;obtain⟨bP,bQ,rfl,hm,aS⟩:=hm;try dsimp only [Vr] at hm
    refine wp_seq (wp_seq (wp_region_lit (n_q H (Zc rfl) rfl (W_q (Zd rfl Wx) rfl (W_q (Zf rfl ((hS.blk 0 rfl).ld Zgm rfl)) rfl (W_q (Qe Tryz.underlying23 rfl aF) rfl (W_q (Jr (i:=aA) (j:=a0.Procs.length) rfl rfl) rfl ?_)))))));clear H a;intro a H
    refine Ze (Za (Zl H rfl (fun aN=>?_) (fun aN=>?_)))
    · replace hm:=Zu hm aN
      have bR : aA < a0.Procs.length:=of_decide_eq_true aN
      refine wp_skip (Za (wp_seq (wp_block (wp_seq (wp_region_lit (n_q H (Zd rfl Wx) rfl (W_q (Zf rfl ((hS.blk 0 rfl).ld Zgm rfl)) rfl (W_q (Zc rfl) rfl ?_))))))));clear H a;intro a H
      replace hm:=Zj hm;obtain⟨aG,aT,hm⟩:=hm
      obtain⟨bS,aX⟩:=SlR.adV (aH.ext (Zn.mono _) hS.x) aF aT
      refine n_q H (Vw (i:=aA) Tryz.underlying23 Ha rfl aF aX rfl (Zaz aT)) rfl (W_q (Zf rfl (SlR.ldAggV (aH.ext (Zn.mono _) hS.x) aF aX Zhq Ha aT)) rfl ?_);clear H a;intro a H
      refine Xf H Zd8 rfl ?_
      clear H;intro cK cL hN bK hs;clear a;intro a H
      replace hS:=hS.newBlk hN bK hs;clear hN hs
      refine Zr H rfl rfl (vs:=[.int .i64 aG.Entry,.int .i64 aG.Prio,.bool aG.Auto]) rfl Ha (hS.blk 0 rfl) rfl (by simp) ?_
      clear H;intro cM hN bL hz;clear a;intro a H;replace hS:=hS.setBlk hN bL;clear hN hz
      refine Ze (Za ?_)
      replace hm:=Zj hm;obtain⟨cN,hm,aI⟩:=hm
      refine Gw (σ:=Bool) H (fun aO=>[(1,.pointer (some ⟨aU,0,none⟩)),(2,.pointer (some ⟨aV,0,none⟩)),(3,.int .i64 ((aA : Nat) : Int)),(55,.bool aO)]) (fun aO wl=>(Gs aA) aO=some bQ ∧ St NB w wl [blkR aU [.int .i64 a0.Id,.bool a0.Mobile,aJ,aK,aL,.int .i64 a0.Events,aM] 27,blkR aV [.int .i64 0,.int .i64 0] 124]) ?_ ?_
      · skip
        refine wp_region_lit (n_q H (Zd rfl Zau) rfl (W_q (Zf rfl ((hS.blk 0 rfl).ld ag3 rfl)) rfl (W_q (Ue rfl rfl) rfl (W_q (Zc rfl) rfl ?_))));clear H a;intro a H
        rcases Bool.eq_false_or_eq_true (decide (aG.Entry < 0)) with aB|aB
        · replace H:=H.know 31 rfl aB
          replace hm:=Zu hm aB
          refine Ts H rfl rfl (by decide) rfl (Qc rfl rfl (by decide) rfl (Qc rfl rfl (by decide) rfl (Qc rfl rfl (by decide) rfl (W_q (Zx rfl rfl) rfl (W_q (Zc rfl) rfl (Qc rfl rfl (by decide) rfl (Qc rfl rfl (by decide) rfl (Qc rfl rfl (by decide) rfl (Qc rfl rfl (by decide) rfl (Qc rfl rfl (by decide) rfl (Qc rfl rfl (by decide) rfl ?_)))))))))));clear H a;intro a H
          refine Ts H rfl rfl (by decide) rfl (W_q (Zx rfl rfl) rfl (W_q (Zc rfl) rfl (Qc rfl rfl (by decide) rfl (Qc rfl rfl (by decide) rfl (Qc rfl rfl (by decide) rfl (W_q (Zx rfl rfl) rfl (W_q (Zc rfl) rfl (Qc rfl rfl (by decide) rfl (Qc rfl rfl (by decide) rfl (Qc rfl rfl (by decide) rfl (W_q (Zx rfl rfl) rfl ?_)))))))))));clear H a;intro a H
          refine Ze (Za ?_)
          obtain rfl:=Option.some.inj hm;replace hm:=aI;try dsimp only at hm
          replace hS:=hS.pk2
          replace hS:=hS.pk2
          replace hS:=hS.tk2
          exact Wb true H ⟨rfl,rfl,rfl,rfl,trivial⟩ ⟨hm,hS⟩
        · replace H:=H.know 31 rfl aB
          replace hm:=Zv hm aB
          refine Vg H rfl rfl (n_q H (Zd rfl Zau) rfl (Qw rfl rfl (W_q (Zf rfl ((hS.blk 0 rfl).ld ag3 rfl)) rfl (Qw rfl rfl (W_q (Zoy rfl rfl (by decide)) rfl (Qw rfl rfl (W_q (Uv rfl rfl) rfl (W_q (Xj rfl rfl) rfl (W_q (Zc rfl) rfl ?_)))))))));clear H a;intro a H
          rcases Bool.eq_false_or_eq_true (!decide ((Int.tmod aG.Entry 4)=0)) with aC|aC
          · replace H:=H.know 37 rfl aC
            replace hm:=Zu hm aC
            refine Ts H rfl rfl (by decide) rfl (Qc rfl rfl (by decide) rfl (Qc rfl rfl (by decide) rfl (Qc rfl rfl (by decide) rfl (Qc rfl rfl (by decide) rfl (Qc rfl rfl (by decide) rfl (Qc rfl rfl (by decide) rfl (W_q (Zx rfl rfl) rfl (W_q (Zc rfl) rfl (Qc rfl rfl (by decide) rfl (Qc rfl rfl (by decide) rfl (Qc rfl rfl (by decide) rfl ?_)))))))))));clear H a;intro a H
            refine n_q H (Zx rfl rfl) rfl (W_q (Zc rfl) rfl (Qc rfl rfl (by decide) rfl (Qc rfl rfl (by decide) rfl (Qc rfl rfl (by decide) rfl (W_q (Zx rfl rfl) rfl ?_)))));clear H a;intro a H
            refine Ze (Za ?_)
            obtain rfl:=Option.some.inj hm;replace hm:=aI;try dsimp only at hm
            replace hS:=hS.pk2
            replace hS:=hS.pk2
            replace hS:=hS.tk2
            exact Wb true H ⟨rfl,rfl,rfl,rfl,trivial⟩ ⟨hm,hS⟩
          · replace H:=H.know 37 rfl aC
            replace hm:=Zv hm aC
            refine Vg H rfl rfl (n_q H (Zd rfl Zau) rfl (Qw rfl rfl (W_q (Zf rfl ((hS.blk 0 rfl).ld ag3 rfl)) rfl (Qw rfl rfl (W_q (Zd rfl Vz) rfl (Qw rfl rfl (W_q (Zf rfl ((hS.blk 1 rfl).ld Zfb rfl)) rfl (Qw rfl rfl ?_))))))));clear H a;intro a H
            obtain⟨bX,bY,bA,bT,bU⟩:=SlR.formV (aY.ext (Zn.mono _) hS.x)
            refine n_q H (Qe Tryz.underlying22 rfl bA) rfl (Qw rfl rfl (W_q (Zbt rfl rfl) rfl (Qw rfl rfl (W_q (Zne rfl rfl) rfl (W_q (Xj rfl rfl) rfl (W_q (Zc rfl) rfl ?_))))));clear H a;intro a H
            rcases Bool.eq_false_or_eq_true (decide ((IntKind.i64.wrap (64 * ((a0.Pages.length : Nat) : Int))) ≤ aG.Entry)) with aD|aD
            · replace H:=H.know 46 rfl aD
              replace hm:=Zu hm aD
              refine Ts H rfl rfl (by decide) rfl (Qc rfl rfl (by decide) rfl (Qc rfl rfl (by decide) rfl (W_q (Zx rfl rfl) rfl (W_q (Zc rfl) rfl (Qc rfl rfl (by decide) rfl (Qc rfl rfl (by decide) rfl (Qc rfl rfl (by decide) rfl (W_q (Zx rfl rfl) rfl ?_))))))));clear H a;intro a H
              refine Ze (Za ?_)
              obtain rfl:=Option.some.inj hm;replace hm:=aI;try dsimp only at hm
              replace hS:=hS.pk2
              replace hS:=hS.pk2
              replace hS:=hS.tk2
              exact Wb true H ⟨rfl,rfl,rfl,rfl,trivial⟩ ⟨hm,hS⟩
            · replace H:=H.know 46 rfl aD
              replace hm:=Zv hm aD
              refine Vg H rfl rfl (n_q H (Zd rfl Zdk) rfl (Qw rfl rfl (W_q (Zf rfl ((hS.blk 0 rfl).ld ag3 rfl)) rfl (Qw rfl rfl (W_q (Ue rfl rfl) rfl (W_q (Xj rfl rfl) rfl (W_q (Zc rfl) rfl ?_)))))));clear H a;intro a H
              rcases Bool.eq_false_or_eq_true (decide (aG.Prio < 0)) with aE|aE
              · replace H:=H.know 51 rfl aE
                replace hm:=Zu hm aE
                refine Ts H rfl rfl (by decide) rfl (Qc rfl rfl (by decide) rfl (Qc rfl rfl (by decide) rfl (W_q (Zx rfl rfl) rfl ?_)));clear H a;intro a H
                refine Ze (Za ?_)
                obtain rfl:=Option.some.inj hm;replace hm:=aI;try dsimp only at hm
                replace hS:=hS.pk2
                replace hS:=hS.pk2
                replace hS:=hS.tk2
                exact Wb true H ⟨rfl,rfl,rfl,rfl,trivial⟩ ⟨hm,hS⟩
              · replace H:=H.know 51 rfl aE
                replace hm:=Zv hm aE
                refine Vg H rfl rfl (n_q H (Zd rfl Zdk) rfl (Qw rfl rfl (W_q (Zf rfl ((hS.blk 0 rfl).ld ag3 rfl)) rfl (Qw rfl rfl (W_q (Gv rfl rfl) rfl (W_q (Xj rfl rfl) rfl ?_))))));clear H a;intro a H
                refine Ze (Za ?_)
                obtain rfl:=Option.some.inj hm;replace hm:=aI;try dsimp only at hm
                replace hS:=hS.pk2
                replace hS:=hS.pk2
                replace hS:=hS.tk2
                exact Wb (decide (255 < aG.Prio)) H ⟨rfl,rfl,rfl,rfl,trivial⟩ ⟨hm,hS⟩
      · clear H hS hm a;intro aO a bZ H hR
        simp only [ent,List.map_cons,List.map_nil] at H;(try dsimp only at hR);obtain⟨hm,hS⟩:=hR;try dsimp only [Gs] at hm
        refine Zl H rfl (fun aP=>?_) (fun aP=>?_)
        · replace hm:=Zu hm aP
          refine wp_seq (wp_region_lit (n_q H (Zc rfl) rfl (W_q (Qd (cs:=[.int .i64 4,.int .i64 ((aA : Nat) : Int)]) Zcc Zi4 Zi5 rfl (by kernel_rfl)) rfl ?_)));clear H a;intro a H
          replace hS:=hS.pk1
          refine Zr H rfl rfl (vs:=[.int .i64 4,.int .i64 ((aA : Nat) : Int)]) rfl Yi (hS.blk 0 rfl) rfl (by simp) ?_
          clear H;intro b7 hN bB hz;clear a;intro a H;replace hS:=hS.setBlk hN bB;clear hN hz
          refine Ze (Za (wp_ret (Zm (Zg (Zg (Zm (Zg ?_)))))))
          obtain rfl:=Option.some.inj hm;have hz : _=aZ:=aS;subst hz;replace hm:=a9;try dsimp only at hm
          obtain rfl:=Option.some.inj hm
          replace hS:=hS.tk1
          refine Zae H (.inr rfl) rfl (vs:=[.agg #[.int .i64 4,.int .i64 ((aA : Nat) : Int)]]) (Xh rfl ((hS.blk 0 rfl).ldAll Ty Yi) Xt) ?_
          replace hS:=hS.tk0
          exact⟨rfl,hS.x⟩
        · replace hm:=Zv hm aP
          refine wp_skip (Zo (Za (wp_region_lit (n_q H (Zc rfl) rfl (W_q (Yn (i:=aA) (j:=1) rfl rfl (by omega)) rfl (W_q (Zb rfl) rfl ?_))))));clear H a;intro a H
          refine Ze (Za ?_)
          obtain rfl:=Option.some.inj hm
          exact Wv (bP,aA + 1) H ⟨rfl,rfl,rfl,trivial⟩ ⟨aS,hS⟩ (Nat.lt_succ_self _)
    · replace hm:=Zv hm aN
      refine wp_exit (Zq (Zq (Qg ?_)))
      obtain rfl:=Option.some.inj hm;have hz : _=aZ:=aS;subst hz;replace hm:=a9;try dsimp only at hm
      refine Za (wp_seq (wp_region_lit ?_))
      replace hm:=Zj hm;obtain⟨aQ,bC,hm⟩:=hm
      refine Zi H rfl Zl5 (Hb (A:=A) bC) rfl ?_
      clear H;intro b8 b9 hv;clear a;intro a H;obtain⟨rfl,bD⟩:=hv
      replace hS:=hS.ext bD
      replace hS:=hS.pk1
      refine Zr H rfl rfl (vs:=[.int .i64 aQ.Code,.int .i64 aQ.Place]) rfl Yi (hS.blk 0 rfl) rfl (by simp) ?_
      clear H;intro cA hN bE hz;clear a;intro a H;replace hS:=hS.setBlk hN bE;clear hN hz
      refine Ze (Za (wp_ret ?_))
      obtain rfl:=Option.some.inj hm
      replace hS:=hS.tk1
      refine Zae H (.inr rfl) rfl (vs:=[.agg #[.int .i64 aQ.Code,.int .i64 aQ.Place]]) (Xh rfl ((hS.blk 0 rfl).ldAll Ty Yi) Xt) ?_
      replace hS:=hS.tk0
      exact⟨rfl,hS.x⟩
theorem Zan {w : World} {A : Nat → Addr} {a0 : GPortPlan} {r : Int} (hm : Va a0=some r) :
    Calls Tryz.prog 194 [.agg (Zs a0).toArray].toArray w (Ret fun u w'=>u=.int .i64 r ∧ Ext w w'):=by
  have hS:=St.begin NB w
  unfold Va at hm
  refine enter Tryz.func194 rfl rfl rfl ?_;intro a H;dsimp only [Qn,Nat.zero_add,Nat.reduceAdd] at H
  refine wp_seq (wp_region_lit (Wi H rfl (cs:=[.int .i64 a0.Kind,.int .i64 a0.Size,.int .i64 a0.Depth,.int .i64 a0.Refresh]) rfl rfl ?_))
  clear H;intro aF aG hN aE hs;clear a;intro a H
  replace hS:=hS.newBlk hN aE hs;clear hN hs
  refine n_q H (Zb rfl) rfl ?_;clear H a;intro a H
  refine Ze (Za (wp_seq (wp_seq (wp_region_lit (n_c H (fun HC=>?_))))));clear H
  refine Hx HC (Zd rfl Gl) rfl (by kernel_rfl) (V_q (Zf rfl ((hS.blk 0 rfl).ld ag3 rfl)) rfl (by kernel_rfl) (V_q (Ue rfl rfl) rfl (by kernel_rfl) (V_q (Zc rfl) rfl (by kernel_rfl) (V_g (Zd rfl Gl) (by kernel_rfl) (by kernel_rfl) (by kernel_rfl) (V_g (Zf rfl ((hS.blk 0 rfl).ld ag3 rfl)) (by kernel_rfl) (by kernel_rfl) (by kernel_rfl) (V_g (Gv rfl rfl) (by kernel_rfl) (by kernel_rfl) (by kernel_rfl) (Zdd (j:=3) rfl rfl rfl (by kernel_rfl) (by kernel_rfl) ?_)))))));clear HC a;intro a HC
  have H:=HC.has;clear HC
  refine Ze (Za (Zl H rfl (fun aA=>?_) (fun aA=>?_)))
  · replace hm:=Zu hm aA
    refine wp_seq (wp_region_lit (n_q H (Zb rfl) rfl ?_));clear H a;intro a H
    refine Ze (Za (wp_ret (Zg ?_)))
    obtain rfl:=Option.some.inj hm
    replace hS:=hS.tk0
    refine Xx H (.inr rfl) rfl rfl ?_
    exact⟨rfl,hS.x⟩
  · replace hm:=Zv hm aA
    refine wp_skip (Za (wp_seq (wp_seq (wp_region_lit (n_c H (fun HC=>?_))))));clear H
    refine Hx HC (Zd rfl Za9) rfl (by kernel_rfl) (V_q (Zf rfl ((hS.blk 0 rfl).ld ag3 rfl)) rfl (by kernel_rfl) (V_q (Ue rfl rfl) rfl (by kernel_rfl) (V_q (Zc rfl) rfl (by kernel_rfl) (V_g (Zd rfl Za9) (by kernel_rfl) (by kernel_rfl) (by kernel_rfl) (V_g (Zf rfl ((hS.blk 0 rfl).ld ag3 rfl)) (by kernel_rfl) (by kernel_rfl) (by kernel_rfl) (V_g (Gv rfl rfl) (by kernel_rfl) (by kernel_rfl) (by kernel_rfl) (Zdd (j:=3) rfl rfl rfl (by kernel_rfl) (by kernel_rfl) ?_)))))));clear HC a;intro a HC
    have H:=HC.has;clear HC
    refine Ze (Za (Zl H rfl (fun aB=>?_) (fun aB=>?_)))
    · replace hm:=Zu hm aB
      refine wp_seq (wp_region_lit (n_q H (Zb rfl) rfl ?_));clear H a;intro a H
      refine Ze (Za (wp_ret (Zg ?_)))
      obtain rfl:=Option.some.inj hm
      replace hS:=hS.tk0
      refine Xx H (.inr rfl) rfl rfl ?_
      exact⟨rfl,hS.x⟩
    · replace hm:=Zv hm aB
      refine wp_skip (Za (wp_seq (wp_region_lit (n_q H (Zd rfl Gl) rfl (W_q (Zf rfl ((hS.blk 0 rfl).ld ag3 rfl)) rfl (W_q (Zne rfl rfl) rfl (W_q (Zb rfl) rfl ?_)))))));clear H a;intro a H
      refine Ze (Za (wp_seq (wp_seq (wp_region_lit (n_c H (fun HC=>?_))))));clear H
      refine Hx HC (Zd rfl Zba) rfl (by kernel_rfl) (V_q (Zf rfl ((hS.blk 0 rfl).ld ag3 rfl)) rfl (by kernel_rfl) (V_q (Ue rfl rfl) rfl (by kernel_rfl) (V_q (Zc rfl) rfl (by kernel_rfl) (V_g (Zd rfl Zba) (by kernel_rfl) (by kernel_rfl) (by kernel_rfl) (V_g (Zf rfl ((hS.blk 0 rfl).ld ag3 rfl)) (by kernel_rfl) (by kernel_rfl) (by kernel_rfl) (V_g (Gv rfl rfl) (by kernel_rfl) (by kernel_rfl) (by kernel_rfl) (Zdd (j:=3) rfl rfl rfl (by kernel_rfl) (by kernel_rfl) (V_q (Zc rfl) rfl (by kernel_rfl) (V_g (Zc rfl) (by kernel_rfl) (by kernel_rfl) (by kernel_rfl) (V_g (Zhe rfl) (by kernel_rfl) (by kernel_rfl) (by kernel_rfl) (V_g (Zc rfl) (by kernel_rfl) (by kernel_rfl) (by kernel_rfl) ?_)))))))))));clear HC a;intro a HC
      refine Zde HC (Zd rfl Zba) (by kernel_rfl) (by kernel_rfl) (by kernel_rfl) (V_g (Zf rfl ((hS.blk 0 rfl).ld ag3 rfl)) (by kernel_rfl) (by kernel_rfl) (by kernel_rfl) (V_g (Uv rfl rfl) (by kernel_rfl) (by kernel_rfl) (by kernel_rfl) ?_));clear HC a;intro a HC
      refine Zk3 (j:=11) HC rfl rfl rfl (by kernel_rfl) (by kernel_rfl) (by kernel_rfl) ?_;clear HC a;intro a HC
      refine Zk2 (j:=8) HC rfl rfl rfl (by kernel_rfl) (by kernel_rfl) ?_;clear HC a;intro a HC
      have H:=HC.has;clear HC
      refine Ze (Za (Zl H rfl (fun aC=>?_) (fun aC=>?_)))
      · replace hm:=Zu hm aC
        refine wp_seq (wp_region_lit (n_q H (Zb rfl) rfl ?_));clear H a;intro a H
        refine Ze (Za (wp_ret (Zg ?_)))
        obtain rfl:=Option.some.inj hm
        replace hS:=hS.tk0
        refine Xx H (.inr rfl) rfl rfl ?_
        exact⟨rfl,hS.x⟩
      · replace hm:=Zv hm aC
        refine wp_skip (Za (wp_seq (wp_seq (wp_region_lit (n_c H (fun HC=>?_))))));clear H
        refine Hx HC (Zd rfl Zdl) rfl (by kernel_rfl) (V_q (Zf rfl ((hS.blk 0 rfl).ld ag3 rfl)) rfl (by kernel_rfl) (V_q (Ue rfl rfl) rfl (by kernel_rfl) (V_q (Zc rfl) rfl (by kernel_rfl) (V_g (Zd rfl Zdl) (by kernel_rfl) (by kernel_rfl) (by kernel_rfl) (V_g (Zf rfl ((hS.blk 0 rfl).ld ag3 rfl)) (by kernel_rfl) (by kernel_rfl) (by kernel_rfl) (V_g (Gv rfl rfl) (by kernel_rfl) (by kernel_rfl) (by kernel_rfl) (Zdd (j:=3) rfl rfl rfl (by kernel_rfl) (by kernel_rfl) (V_q (Zc rfl) rfl (by kernel_rfl) (V_g (Zd rfl Gl) (by kernel_rfl) (by kernel_rfl) (by kernel_rfl) (V_g (Zf rfl ((hS.blk 0 rfl).ld ag3 rfl)) (by kernel_rfl) (by kernel_rfl) (by kernel_rfl) (V_g (Uv rfl rfl) (by kernel_rfl) (by kernel_rfl) (by kernel_rfl) ?_)))))))))));clear HC a;intro a HC
        refine Zde HC (Zc rfl) (by kernel_rfl) (by kernel_rfl) (by kernel_rfl) (V_g (Zd rfl Zdl) (by kernel_rfl) (by kernel_rfl) (by kernel_rfl) (V_g (Zf rfl ((hS.blk 0 rfl).ld ag3 rfl)) (by kernel_rfl) (by kernel_rfl) (by kernel_rfl) (V_g (Uv rfl rfl) (by kernel_rfl) (by kernel_rfl) (by kernel_rfl) ?_)));clear HC a;intro a HC
        refine Zk3 (j:=12) HC rfl rfl rfl (by kernel_rfl) (by kernel_rfl) (by kernel_rfl) ?_;clear HC a;intro a HC
        refine Zk2 (j:=8) HC rfl rfl rfl (by kernel_rfl) (by kernel_rfl) ?_;clear HC a;intro a HC
        have H:=HC.has;clear HC
        refine Ze (Za (Zl H rfl (fun aD=>?_) (fun aD=>?_)))
        · replace hm:=Zu hm aD
          refine wp_seq (wp_region_lit (n_q H (Zb rfl) rfl ?_));clear H a;intro a H
          refine Ze (Za (wp_ret (Zg ?_)))
          obtain rfl:=Option.some.inj hm
          replace hS:=hS.tk0
          refine Xx H (.inr rfl) rfl rfl ?_
          exact⟨rfl,hS.x⟩
        · replace hm:=Zv hm aD
          refine wp_skip (Za (wp_seq (wp_region_lit (n_q H (Zb rfl) rfl ?_))));clear H a;intro a H
          refine Ze (Za (wp_ret ?_))
          obtain rfl:=Option.some.inj hm
          replace hS:=hS.tk0
          refine Xx H (.inr rfl) rfl rfl ?_
          exact⟨rfl,hS.x⟩
theorem Zgw {w : World} {A : Nat → Addr} {cs0 : List Value} {a0 : GPlan} (h0 : Qs w cs0 a0) {r : GR10Err} (hm : Tg a0=some r) :
    Calls Tryz.prog 121 [.agg cs0.toArray].toArray w (Ret fun u w'=>u=.agg (Hm r).toArray ∧ Ext w w'):=by
  obtain⟨aI,aJ,aK,aL,rfl,bE,bF,aB,bG⟩:=h0
  have hS:=St.begin NB w
  unfold Tg at hm
  refine enter Tryz.func121 rfl rfl rfl ?_;intro a H;dsimp only [Qn,Nat.zero_add,Nat.reduceAdd] at H
  refine wp_seq (wp_region_lit (Wi H rfl (cs:=[.int .i64 a0.Id,.bool a0.Mobile,aI,aJ,aK,.int .i64 a0.Events,aL]) rfl rfl ?_))
  clear H;intro aS bN hN aU hs;clear a;intro a H
  replace hS:=hS.newBlk hN aU hs;clear hN hs
  refine Xf H Zcc rfl ?_
  clear H;intro aT bO hN aV hs;clear a;intro a H
  replace hS:=hS.newBlk hN aV hs;clear hN hs
  refine Ze (Za (wp_seq (wp_seq (wp_region_lit (n_q H (Zd rfl Gb) rfl (W_q (Zf rfl ((hS.blk 1 rfl).ld Zhr rfl)) rfl ?_))))));clear H a;intro a H
  obtain⟨bP,bQ,aC,bL,bM⟩:=SlR.formV (aB.ext (Zn.mono _) hS.x)
  refine n_q H (Qe Tryz.underlying24 rfl aC) rfl (W_q (Za6 (i:=a0.Ports.length) (j:=8) rfl rfl) rfl ?_);clear H a;intro a H
  refine Ze (Za (Zl H rfl (fun aE=>?_) (fun aE=>?_)))
  · replace hm:=Zu hm aE
    refine wp_seq (wp_region_lit ?_)
    replace hm:=Zj hm;obtain⟨aM,aW,hm⟩:=hm
    refine Zi H rfl Zi6 (Ui (A:=A) aW) rfl ?_
    clear H;intro bR bS hv;clear a;intro a H;obtain⟨rfl,aX⟩:=hv
    replace hS:=hS.ext aX
    refine Zr H rfl rfl (vs:=[.int .i64 aM.Code,.int .i64 aM.Place]) rfl Yi (hS.blk 0 rfl) rfl (by simp) ?_
    clear H;intro bT hN aY hz;clear a;intro a H;replace hS:=hS.setBlk hN aY;clear hN hz
    refine Ze (Za (wp_ret (Zg ?_)))
    obtain rfl:=Option.some.inj hm
    replace hS:=hS.tk1
    refine Zae H (.inr rfl) rfl (vs:=[.agg #[.int .i64 aM.Code,.int .i64 aM.Place]]) (Xh rfl ((hS.blk 0 rfl).ldAll Ty Yi) Xt) ?_
    replace hS:=hS.tk0
    exact⟨rfl,hS.x⟩
  · replace hm:=Zv hm aE
    refine wp_skip (Za (wp_seq (wp_seq (wp_region_lit (n_q H (Zb rfl) rfl ?_)))));clear H a;intro a H
    refine Ze (Za (wp_block ?_))
    replace hS:=hS.pk1
    replace hm:=Zj hm;obtain⟨aP,hm,aQ⟩:=hm;replace hm:=Qk hm;obtain⟨bH,hm⟩:=hm
    refine Kn (σ:=Nat × Nat) (fun (m,aA)=>[(1,.pointer (some ⟨aS,0,none⟩)),(2,.pointer (some ⟨aT,0,none⟩)),(3,.int .i64 ((aA : Nat) : Int))]) (fun (m,aA) wl=>Kq (Vs a0) m aA=some aP ∧ St NB w wl [blkR aS [.int .i64 a0.Id,.bool a0.Mobile,aI,aJ,aK,.int .i64 a0.Events,aL] 27,blkR aT [.int .i64 0,.int .i64 0] 124]) (fun (m,aA)=>m) (bH,0) H ⟨rfl,rfl,rfl,trivial⟩ ⟨hm,hS⟩ ?_
    clear H hS hm a;intro xx a bU H hR;obtain⟨m,aA⟩:=xx;simp only [ent,List.map_cons,List.map_nil] at H;(try dsimp only at hR);obtain⟨hm,hS⟩:=hR
    replace hm:=Qi hm;obtain⟨bI,bV,rfl,hm,aF⟩:=hm;try dsimp only [Vs] at hm
    refine wp_seq (wp_seq (wp_region_lit (n_q H (Zc rfl) rfl (W_q (Zd rfl Gb) rfl (W_q (Zf rfl ((hS.blk 0 rfl).ld Zhr rfl)) rfl (W_q (Qe Tryz.underlying24 rfl aC) rfl (W_q (Jr (i:=aA) (j:=a0.Ports.length) rfl rfl) rfl ?_)))))));clear H a;intro a H
    refine Ze (Za (Zl H rfl (fun aD=>?_) (fun aD=>?_)))
    · replace hm:=Zu hm aD
      have bJ : aA < a0.Ports.length:=of_decide_eq_true aD
      refine wp_skip (Za (wp_seq (wp_block (wp_seq (wp_region_lit (n_q H (Zd rfl Gb) rfl (W_q (Zf rfl ((hS.blk 0 rfl).ld Zhr rfl)) rfl (W_q (Zc rfl) rfl ?_))))))));clear H a;intro a H
      replace hm:=Zj hm;obtain⟨bW,aG,hm⟩:=hm
      obtain⟨bK,aN⟩:=SlR.adV (aB.ext (Zn.mono _) hS.x) aC aG
      refine n_q H (Vw (i:=aA) Tryz.underlying24 Wp rfl aC aN rfl (Zaz aG)) rfl (W_q (Zf rfl (SlR.ldAggV (aB.ext (Zn.mono _) hS.x) aC aN Za8 Wp aG)) rfl ?_);clear H a;intro a H
      replace hm:=Zj hm;obtain⟨aR,aZ,hm⟩:=hm
      refine Zi H rfl en194 (Zan (A:=A) aZ) rfl ?_
      clear H;intro bX bY hv;clear a;intro a H;obtain⟨rfl,a9⟩:=hv
      replace hS:=hS.ext a9
      refine n_q H (Zb rfl) rfl ?_;clear H a;intro a H
      refine Ze (Za (wp_seq (wp_region_lit (n_q H (Zc rfl) rfl (W_q (Uv rfl rfl) rfl ?_)))));clear H a;intro a H
      refine Ze (Za (Zl H rfl (fun aH=>?_) (fun aH=>?_)))
      · replace hm:=Zu hm aH
        refine wp_seq (wp_region_lit (n_q H (Zc rfl) rfl (W_q (Zc rfl) rfl (W_q (Qd (cs:=[.int .i64 aR,.int .i64 ((aA : Nat) : Int)]) Zcc Zi4 Zi5 rfl (by kernel_rfl)) rfl ?_))));clear H a;intro a H
        replace hS:=hS.pk1
        refine Zr H rfl rfl (vs:=[.int .i64 aR,.int .i64 ((aA : Nat) : Int)]) rfl Yi (hS.blk 0 rfl) rfl (by simp) ?_
        clear H;intro bZ hN bA hz;clear a;intro a H;replace hS:=hS.setBlk hN bA;clear hN hz
        refine Ze (Za (wp_ret (Zm (Zg (Zg (Zm (Zg ?_)))))))
        obtain rfl:=Option.some.inj hm;have hz : _=aP:=aF;subst hz;replace hm:=aQ;try dsimp only at hm
        obtain rfl:=Option.some.inj hm
        replace hS:=hS.tk1
        refine Zae H (.inr rfl) rfl (vs:=[.agg #[.int .i64 aR,.int .i64 ((aA : Nat) : Int)]]) (Xh rfl ((hS.blk 0 rfl).ldAll Ty Yi) Xt) ?_
        replace hS:=hS.tk0
        exact⟨rfl,hS.x⟩
      · replace hm:=Zv hm aH
        refine wp_skip (Zo (Za (wp_region_lit (n_q H (Zc rfl) rfl (W_q (Yn (i:=aA) (j:=1) rfl rfl (by omega)) rfl (W_q (Zb rfl) rfl ?_))))));clear H a;intro a H
        refine Ze (Za ?_)
        obtain rfl:=Option.some.inj hm
        exact Wv (bI,aA + 1) H ⟨rfl,rfl,rfl,trivial⟩ ⟨aF,hS⟩ (Nat.lt_succ_self _)
    · replace hm:=Zv hm aD
      refine wp_exit (Zq (Zq (Qg ?_)))
      obtain rfl:=Option.some.inj hm;have hz : _=aP:=aF;subst hz;replace hm:=aQ;try dsimp only at hm
      refine Za (wp_seq (wp_region_lit ?_))
      replace hm:=Zj hm;obtain⟨aO,bB,hm⟩:=hm
      refine Zi H rfl Zl5 (Hb (A:=A) bB) rfl ?_
      clear H;intro b7 b8 hv;clear a;intro a H;obtain⟨rfl,bC⟩:=hv
      replace hS:=hS.ext bC
      replace hS:=hS.pk1
      refine Zr H rfl rfl (vs:=[.int .i64 aO.Code,.int .i64 aO.Place]) rfl Yi (hS.blk 0 rfl) rfl (by simp) ?_
      clear H;intro b9 hN bD hz;clear a;intro a H;replace hS:=hS.setBlk hN bD;clear hN hz
      refine Ze (Za (wp_ret ?_))
      obtain rfl:=Option.some.inj hm
      replace hS:=hS.tk1
      refine Zae H (.inr rfl) rfl (vs:=[.agg #[.int .i64 aO.Code,.int .i64 aO.Place]]) (Xh rfl ((hS.blk 0 rfl).ldAll Ty Yi) Xt) ?_
      replace hS:=hS.tk0
      exact⟨rfl,hS.x⟩
end Go.Proofs.YtfemfiiagjnhdaaGreatDoor
