/- Part of a claim, shortened by a program from its texts: PbC. -/
import Derived.Test.YtfemfiiagjnhdaaGreatDoorQyF
set_option linter.unusedVariables false
set_option linter.unusedSimpArgs false
set_option maxRecDepth 10000
namespace Go.Proofs.YtfemfiiagjnhdaaGreatDoor
open Go Go.RowKit
theorem Zce : Za5 Tryz.prog 124=some true:=by kernel_rfl
theorem Zmk : bdB Tryz.prog 124=true:=by kernel_rfl
theorem Zml : Gj Tryz.prog 124=some #[(0,1),(1,1)]:=by kernel_rfl
theorem en100 : Zs Tryz.prog 100=true:=by kernel_rfl
theorem Zud : Zs Tryz.prog 101=true:=by kernel_rfl
theorem Zue : Zs Tryz.prog 102=true:=by kernel_rfl
theorem en103 : Zs Tryz.prog 103=true:=by kernel_rfl
theorem en105 : Zs Tryz.prog 105=true:=by kernel_rfl
theorem en106 : Zs Tryz.prog 106=true:=by kernel_rfl
theorem en107 : Zs Tryz.prog 107=true:=by kernel_rfl
theorem Zmm : Zs Tryz.prog 118=true:=by kernel_rfl
theorem en119 : Zs Tryz.prog 119=true:=by kernel_rfl
theorem en120 : Zs Tryz.prog 120=true:=by kernel_rfl
theorem en121 : Zs Tryz.prog 121=true:=by kernel_rfl
theorem en122 : Zs Tryz.prog 122=true:=by kernel_rfl
theorem en123 : Zs Tryz.prog 123=true:=by kernel_rfl
theorem Zp5 : Zs Tryz.prog 124=true:=by kernel_rfl
theorem en177 : Zs Tryz.prog 177=true:=by kernel_rfl
theorem en178 : Zs Tryz.prog 178=true:=by kernel_rfl
theorem en179 : Zs Tryz.prog 179=true:=by kernel_rfl
theorem en180 : Zs Tryz.prog 180=true:=by kernel_rfl
theorem en181 : Zs Tryz.prog 181=true:=by kernel_rfl
theorem Zmn : Zs Tryz.prog 182=true:=by kernel_rfl
theorem Zuf : Zs Tryz.prog 183=true:=by kernel_rfl
theorem Zug : Zs Tryz.prog 184=true:=by kernel_rfl
theorem en194 : Zs Tryz.prog 194=true:=by kernel_rfl
theorem en195 : Zs Tryz.prog 195=true:=by kernel_rfl
theorem en99 : Zs Tryz.prog 99=true:=by kernel_rfl
theorem Zuh : Zb2 Tryz.prog 124 0=some 0:=by kernel_rfl
theorem Vt : Xx Tryz.prog 124=some 2:=by kernel_rfl
theorem sz4 : Xx Tryz.prog 4=some 1:=by kernel_rfl
theorem Ze2 : Gc Tryz.prog 124=some [.int .i64 0,.int .i64 0]:=by kernel_rfl
theorem ze39 : Gc Tryz.prog 39=some [.nilIface]:=by kernel_rfl
theorem Zdz {w : World} {A : Nat → Addr} {fp : Nat → Prop} {b0 : Nat} {v0_0 : Value} {a0 : GWireCursor} {a1 : Int} (hG : ∀ w',ChgP fp w w' → EV A w') (hP : Sep w fp [blkR b0 [v0_0,.int .i64 a0.at_,.int .i64 a0.bound_] 248]) (ro0_b : ∀ w',ChgP fp w w' → SlR w' 1 (Zq eB) v0_0 a0.b_) {r : Option GWireCursor × ErrM × GWireCursor} (hm : Kv a0 a1=some r) :
    Calls Tryz.prog 178 [.pointer (some ⟨b0,0,none⟩),.int .i64 a1].toArray w (Ret fun u w'=>∃ h_0 h_1,u=.tuple #[h_0,h_1] ∧ St fp w w' [blkR b0 [v0_0,.int .i64 r.2.2.at_,.int .i64 r.2.2.bound_] 248,optR (fun (x : GWireCursor) b=>blkR b [v0_0,.int .i64 x.at_,.int .i64 x.bound_] 248) h_0 r.1,erQ A h_1 r.2.1]):=by
  have hS:=St.init hP
  unfold Kv at hm
  refine enter Tryz.func178 rfl rfl rfl ?_;intro a H;dsimp only [Qk,Nat.zero_add,Nat.reduceAdd] at H
  refine wp_seq (wp_region_lit (n_q H (Zb rfl) rfl (W_q (Zb rfl) rfl ?_)));clear H a;intro a H
  refine Ze (Za (wp_seq (wp_seq (wp_region_lit (n_q H (Zc rfl) rfl (W_q (Zc rfl) rfl ?_))))));clear H a;intro a H
  obtain⟨aX,aG,aH,aO,aI⟩:=hS.frame (rs1:=[blkR b0 [v0_0,.int .i64 a0.at_,.int .i64 a0.bound_] 248])
  replace hm:=Zi hm;obtain⟨aA,aP,hm⟩:=hm
  refine Zj H rfl Zk9 (Xs (A:=A) aG (a0:=(⟨a0.b_,a0.at_,a0.bound_⟩ : GWireCursor)) (fun w' hw=>ro0_b _ (aH _ hw)) aP) rfl ?_
  clear H;intro aY aF hv;clear a;intro a H;obtain⟨rfl,aQ⟩:=hv
  replace hS:=aI _ _ aQ;simp only [List.cons_append,List.nil_append] at hS;clear aG aH aO aI
  refine n_q H (Zcj rfl rfl) rfl (W_q (Hp rfl rfl) rfl ?_);clear H a;intro a H
  refine Ze (Za (Zl H rfl (fun aB=>?_) (fun aB=>?_)))
  · replace hm:=Zu hm aB
    refine wp_seq (Gi [] 9 (by kernel_rfl) ?_)
    obtain⟨aJ,aC⟩ : ∃ x,x=aF.drew:=⟨_,rfl⟩;rw [← aC];have aR : Ext aF aJ:=by rw [aC];exact Ext.drew' _
    clear aC
    replace hS:=hS.ext aR
    have aK:=hS
    have hW:=Nat.le_refl aJ.heap.size
    refine Zg 0 H rfl (Zc rfl) rfl (by kernel_rfl) (by kernel_rfl) (by kernel_rfl) (by kernel_rfl) (fun _ _ _ h=>h) ?_;clear H a;intro a H
    refine Zg 1 H rfl (Zp rfl) rfl (by kernel_rfl) (by kernel_rfl) (by kernel_rfl) (by kernel_rfl) (fun _ _ _ h=>h) ?_;clear H a;intro a H
    refine Zg 2 H rfl (Zd rfl Uk) rfl (by kernel_rfl) (by kernel_rfl) (by kernel_rfl) (by kernel_rfl) (fun _ _ _ h=>h) ?_;clear H a;intro a H
    refine Xo 3 H rfl (Zf rfl (LdC.old ((aK.blk 0 rfl).ld ag3 rfl) Ext.rfl' (Nat.le_refl _) (by simp))) rfl (by kernel_rfl) (by kernel_rfl) (by kernel_rfl) (by kernel_rfl) (fun _ _ _ h=>h) ?_;clear H a;intro a H
    refine Zg 4 H rfl (Xv rfl rfl) rfl (by kernel_rfl) (by kernel_rfl) (by kernel_rfl) (by kernel_rfl) (fun _ _ _ h=>h) ?_;clear H a;intro a H
    refine Xo 5 H rfl (Zf rfl (LdC.old ((hG _ aK.chg).ld Vv (by decide) Hv) Ext.rfl' (Nat.le_refl _) (by simp))) rfl (by kernel_rfl) (by kernel_rfl) (by kernel_rfl) (by kernel_rfl) (fun _ _ _ h=>h) ?_;clear H a;intro a H
    replace hm:=Zi hm;obtain⟨aZ,aS,hm⟩:=hm
    refine Xu 6 (by kernel_rfl) ?_
    refine Xy 6 H rfl rfl Zk3 (Gs (A:=A) (Xw.var (by decide) : IsE A aJ _ (.v Vv)) aS) rfl (fun v w hv=>.inl (ChgF.of_ext (by obtain⟨_,_,hE0⟩:=hv;exact hE0.x))) ?_
    clear H;intro u32 a9 hv;clear a;intro a H;obtain⟨_,rfl,aL⟩:=hv
    replace hS:=hS.new aL;simp only [List.cons_append,List.nil_append] at hS
    replace hW:=Nat.le_trans hW aL.x.size
    refine Zg 7 H rfl (Zb rfl) rfl (by kernel_rfl) (by kernel_rfl) (by kernel_rfl) (by kernel_rfl) (fun _ _ _ h=>h) ?_;clear H a;intro a H
    refine Zg 8 H rfl (Zb rfl) rfl (by kernel_rfl) (by kernel_rfl) (by kernel_rfl) (by kernel_rfl) (fun _ _ _ h=>h) ?_;clear H a;intro a H
    refine Qx (by kernel_rfl) ?_
    refine Za (wp_ret (Zh ?_))
    obtain rfl:=Option.some.inj hm
    replace hS:=St.optNone (fun (x : GWireCursor) b=>blkR b [v0_0,.int .i64 x.at_,.int .i64 x.bound_] 248) hS
    replace hS:=hS.pk1
    replace hS:=hS.pk1
    replace hS:=hS.pk2
    refine Zda H (.inr rfl) rfl rfl rfl ?_
    exact⟨_,_,rfl,hS⟩
  replace hm:=Zv hm aB
  refine wp_skip (Za (wp_seq (Gi [] 19 (by kernel_rfl) ?_)))
  obtain⟨aM,aD⟩ : ∃ x,x=aF.drew:=⟨_,rfl⟩;rw [← aD];have aT : Ext aF aM:=by rw [aD];exact Ext.drew' _
  clear aD
  replace hS:=hS.ext aT
  have aE:=hS
  have hW:=Nat.le_refl aM.heap.size
  refine Zg 0 H rfl (Zc rfl) rfl (by kernel_rfl) (by kernel_rfl) (by kernel_rfl) (by kernel_rfl) (fun _ _ _ h=>h) ?_;clear H a;intro a H
  refine Zg 1 H rfl (Zp rfl) rfl (by kernel_rfl) (by kernel_rfl) (by kernel_rfl) (by kernel_rfl) (fun _ _ _ h=>h) ?_;clear H a;intro a H
  refine Zg 2 H rfl (Zd rfl Zmj) rfl (by kernel_rfl) (by kernel_rfl) (by kernel_rfl) (by kernel_rfl) (fun _ _ _ h=>h) ?_;clear H a;intro a H
  refine Xo 3 H rfl (Zf rfl (LdC.old ((aE.blk 0 rfl).ld Zdx rfl) Ext.rfl' (Nat.le_refl _) (by simp))) rfl (by kernel_rfl) (by kernel_rfl) (by kernel_rfl) (by kernel_rfl) (fun _ _ _ h=>h) ?_;clear H a;intro a H
  refine Zg 4 H rfl (Zc rfl) rfl (by kernel_rfl) (by kernel_rfl) (by kernel_rfl) (by kernel_rfl) (fun _ _ _ h=>h) ?_;clear H a;intro a H
  refine Zg 5 H rfl (Zp rfl) rfl (by kernel_rfl) (by kernel_rfl) (by kernel_rfl) (by kernel_rfl) (fun _ _ _ h=>h) ?_;clear H a;intro a H
  refine Zg 6 H rfl (Zd rfl Uk) rfl (by kernel_rfl) (by kernel_rfl) (by kernel_rfl) (by kernel_rfl) (fun _ _ _ h=>h) ?_;clear H a;intro a H
  refine Xo 7 H rfl (Zf rfl (LdC.old ((aE.blk 0 rfl).ld ag3 rfl) Ext.rfl' (Nat.le_refl _) (by simp))) rfl (by kernel_rfl) (by kernel_rfl) (by kernel_rfl) (by kernel_rfl) (fun _ _ _ h=>h) ?_;clear H a;intro a H
  refine Zg 8 H rfl (Xv rfl rfl) rfl (by kernel_rfl) (by kernel_rfl) (by kernel_rfl) (by kernel_rfl) (fun _ _ _ h=>h) ?_;clear H a;intro a H
  refine Zg 9 H rfl (Zc rfl) rfl (by kernel_rfl) (by kernel_rfl) (by kernel_rfl) (by kernel_rfl) (fun _ _ _ h=>h) ?_;clear H a;intro a H
  refine Zg 10 H rfl (Zp rfl) rfl (by kernel_rfl) (by kernel_rfl) (by kernel_rfl) (by kernel_rfl) (fun _ _ _ h=>h) ?_;clear H a;intro a H
  refine Zg 11 H rfl (Zd rfl Uk) rfl (by kernel_rfl) (by kernel_rfl) (by kernel_rfl) (by kernel_rfl) (fun _ _ _ h=>h) ?_;clear H a;intro a H
  refine Xo 12 H rfl (Zf rfl (LdC.old ((aE.blk 0 rfl).ld ag3 rfl) Ext.rfl' (Nat.le_refl _) (by simp))) rfl (by kernel_rfl) (by kernel_rfl) (by kernel_rfl) (by kernel_rfl) (fun _ _ _ h=>h) ?_;clear H a;intro a H
  refine Zg 13 H rfl (Xv rfl rfl) rfl (by kernel_rfl) (by kernel_rfl) (by kernel_rfl) (by kernel_rfl) (fun _ _ _ h=>h) ?_;clear H a;intro a H
  refine Zg 14 H rfl (Zc rfl) rfl (by kernel_rfl) (by kernel_rfl) (by kernel_rfl) (by kernel_rfl) (fun _ _ _ h=>h) ?_;clear H a;intro a H
  refine Zg 15 H rfl (Xv rfl rfl) rfl (by kernel_rfl) (by kernel_rfl) (by kernel_rfl) (by kernel_rfl) (fun _ _ _ h=>h) ?_;clear H a;intro a H
  refine Zg 16 H rfl (Zz (cs:=[v0_0,.int .i64 (IntKind.i64.wrap (aA.2.at_ + 3)),.int .i64 (IntKind.i64.wrap ((IntKind.i64.wrap (aA.2.at_ + 3)) + a1))]) ze248 bd248 pl248 rfl ((Qh ((ro0_b _ hS.chg)).one rfl (by simp)).trans ((Qh rfl rfl (by simp)).trans ((Qh rfl rfl (by simp)).trans rfl)))) rfl (by kernel_rfl) (by kernel_rfl) (by kernel_rfl) (by kernel_rfl) (fun _ _ _ h=>h) ?_;clear H a;intro a H
  refine k_box 17 H rfl rfl (cs:=[v0_0,.int .i64 (IntKind.i64.wrap (aA.2.at_ + 3)),.int .i64 (IntKind.i64.wrap ((IntKind.i64.wrap (aA.2.at_ + 3)) + a1))]) rfl rfl (by kernel_rfl) ?_
  clear H;intro aW bA hN aN hs;clear a;intro a H
  have aV : aM.heap.size ≤ aW:=hs ▸ hW
  replace hS:=hS.newBlk hN aN hs;clear hN hs
  replace hW:=Nat.le_trans hW aN.size
  refine Zg 18 H rfl (Zb rfl) rfl (by kernel_rfl) (by kernel_rfl) (by kernel_rfl) (by kernel_rfl) (fun _ _ _ h=>h) ?_;clear H a;intro a H
  refine Qx (by kernel_rfl) ?_
  refine Za (wp_seq (wp_region_lit (n_q H (Zc rfl) rfl (W_q (Zc rfl) rfl (W_q (Zp rfl) rfl (W_q (Zd rfl Zp2) rfl (W_q (Zf rfl ((hS.blk 0 rfl).ld ag3 rfl)) rfl (W_q (Zp rfl) rfl (W_q (Zd rfl Uk) rfl ?_)))))))));clear H a;intro a H
  replace hS:=hS.pk1
  refine Jz H rfl rfl sz3 (hS.blk 0 rfl) (by simp) rfl ?_
  clear H;intro bB hN aU hz;clear a;intro a H;replace hS:=hS.setBlk hN aU;clear hN hz
  try simp only [List.set_cons_succ,List.set_cons_zero] at hS
  refine Ze (Za (wp_seq (wp_region_lit (n_q H (Zc rfl) rfl (W_q (Zb rfl) rfl (W_q (Zb rfl) rfl ?_))))));clear H a;intro a H
  refine Ze (Za (wp_ret ?_))
  obtain rfl:=Option.some.inj hm
  replace hS:=hS.pk1
  replace hS:=St.optSome (g:=(fun (x : GWireCursor) b=>blkR b [v0_0,.int .i64 x.at_,.int .i64 x.bound_] 248)) (⟨a0.b_,(IntKind.i64.wrap (aA.2.at_ + 3)),(IntKind.i64.wrap ((IntKind.i64.wrap (aA.2.at_ + 3)) + a1))⟩ : GWireCursor) hS
  replace hS:=hS.dNil (A:=A)
  replace hS:=hS.pk1
  replace hS:=hS.pk2
  refine Zda H (.inr rfl) rfl rfl rfl ?_
  exact⟨_,_,rfl,hS⟩
theorem Zec {w : World} {A : Nat → Addr} {fp : Nat → Prop} {b0 : Nat} {v0_0 : Value} {a0 : GWireCursor} (hG : ∀ w',ChgP fp w w' → EV A w') (hP : Sep w fp [blkR b0 [v0_0,.int .i64 a0.at_,.int .i64 a0.bound_] 248]) (ro0_b : ∀ w',ChgP fp w w' → SlR w' 1 (Zq eB) v0_0 a0.b_) {r : Int × Option GWireCursor × ErrM × GWireCursor} (hm : Jj a0=some r) :
    Calls Tryz.prog 105 [.pointer (some ⟨b0,0,none⟩)].toArray w (Ret fun u w'=>∃ h_0 h_1,u=.tuple #[.int .i64 r.1,h_0,h_1] ∧ St fp w w' [blkR b0 [v0_0,.int .i64 r.2.2.2.at_,.int .i64 r.2.2.2.bound_] 248,optR (fun (x : GWireCursor) b=>blkR b [v0_0,.int .i64 x.at_,.int .i64 x.bound_] 248) h_0 r.2.1,erQ A h_1 r.2.2.1]):=by
  have hS:=St.init hP
  unfold Jj at hm
  refine enter Tryz.func105 rfl rfl rfl ?_;intro a H;dsimp only [Qk,Nat.zero_add,Nat.reduceAdd] at H
  refine wp_seq (wp_region_lit (n_q H (Zb rfl) rfl (W_q (Zb rfl) rfl (W_q (Zb rfl) rfl ?_))));clear H a;intro a H
  refine Ze (Za (wp_seq (wp_region_lit (n_q H (Zc rfl) rfl ?_))));clear H a;intro a H
  obtain⟨bC,aI,aB,aT,aJ⟩:=hS.frame (rs1:=[blkR b0 [v0_0,.int .i64 a0.at_,.int .i64 a0.bound_] 248])
  replace hm:=Zi hm;obtain⟨aA,aU,hm⟩:=hm
  refine Zj H rfl en177 (Zeb (A:=A) (fun w' hw=>hG _ (aB _ hw)) aI (a0:=(⟨a0.b_,a0.at_,a0.bound_⟩ : GWireCursor)) (fun w' hw=>ro0_b _ (aB _ hw)) aU) rfl ?_
  clear H;intro bE aH hv;clear a;intro a H;obtain⟨aK,rfl,aV⟩:=hv
  replace hS:=aJ _ _ aV;simp only [List.cons_append,List.nil_append] at hS;clear aI aB aT aJ
  refine n_q H (Zc rfl) rfl (W_q (Zk rfl rfl) rfl (W_q (Zk rfl rfl) rfl (W_q (Zk rfl rfl) rfl (W_q (Zb rfl) rfl (W_q (Zb rfl) rfl (W_q (Zb rfl) rfl ?_))))));clear H a;intro a H
  refine Ze (Za (wp_seq (wp_seq (wp_region_lit (n_q H (Zc rfl) rfl (W_q (Qo (Va Tryz.underlying39 rfl rfl (hS.any 1 rfl : IsE A aH aK aA.2.2.1).form) (show _=Value.bool (!decide (aA.2.2.1=.nil)) by rw [Xw.isNil (hS.any 1 rfl : IsE A aH aK aA.2.2.1)])) rfl ?_))))));clear H a;intro a H
  refine Ze (Za (Zl H rfl (fun aC=>?_) (fun aC=>?_)))
  · replace hm:=Zu hm aC
    refine wp_seq (wp_region_lit (n_q H (Zc rfl) rfl (W_q (Zb rfl) rfl (W_q (Zb rfl) rfl (W_q (Zb rfl) rfl ?_)))));clear H a;intro a H
    refine Ze (Za (wp_ret (Zh ?_)))
    obtain rfl:=Option.some.inj hm
    replace hS:=St.optNone (fun (x : GWireCursor) b=>blkR b [v0_0,.int .i64 x.at_,.int .i64 x.bound_] 248) hS
    replace hS:=hS.pk2
    replace hS:=hS.pk1
    replace hS:=hS.pk2
    refine Ti H (.inr rfl) rfl (vs:=[.int .i64 0,.pointer none,aK]) (Xh rfl (Xh rfl (Xh rfl Qv))) ?_
    exact⟨_,_,rfl,hS⟩
  replace hm:=Zv hm aC
  refine wp_skip (Za (wp_seq (wp_seq (wp_region_lit (n_q H (Zc rfl) rfl (W_q (Ky rfl rfl) rfl ?_))))));clear H a;intro a H
  refine Ze (Za (Zl H rfl (fun aD=>?_) (fun aD=>?_)))
  · replace hm:=Zu hm aD
    refine wp_seq (Gi [] 9 (by kernel_rfl) ?_)
    obtain⟨aL,aE⟩ : ∃ x,x=aH.drew:=⟨_,rfl⟩;rw [← aE];have aW : Ext aH aL:=by rw [aE];exact Ext.drew' _
    clear aE
    replace hS:=hS.ext aW
    have aM:=hS
    have hW:=Nat.le_refl aL.heap.size
    refine Zg 0 H rfl (Zc rfl) rfl (by kernel_rfl) (by kernel_rfl) (by kernel_rfl) (by kernel_rfl) (fun _ _ _ h=>h) ?_;clear H a;intro a H
    refine Zg 1 H rfl (Zp rfl) rfl (by kernel_rfl) (by kernel_rfl) (by kernel_rfl) (by kernel_rfl) (fun _ _ _ h=>h) ?_;clear H a;intro a H
    refine Zg 2 H rfl (Zd rfl Uk) rfl (by kernel_rfl) (by kernel_rfl) (by kernel_rfl) (by kernel_rfl) (fun _ _ _ h=>h) ?_;clear H a;intro a H
    refine Xo 3 H rfl (Zf rfl (LdC.old ((aM.blk 0 rfl).ld ag3 rfl) Ext.rfl' (Nat.le_refl _) (by simp))) rfl (by kernel_rfl) (by kernel_rfl) (by kernel_rfl) (by kernel_rfl) (fun _ _ _ h=>h) ?_;clear H a;intro a H
    refine Xo 4 H rfl (Zf rfl (LdC.old ((hG _ aM.chg).ld Zoj (by decide) Hv) Ext.rfl' (Nat.le_refl _) (by simp))) rfl (by kernel_rfl) (by kernel_rfl) (by kernel_rfl) (by kernel_rfl) (fun _ _ _ h=>h) ?_;clear H a;intro a H
    replace hm:=Zi hm;obtain⟨bF,aX,hm⟩:=hm
    refine Xu 5 (by kernel_rfl) ?_
    refine Xy 5 H rfl rfl Zk3 (Gs (A:=A) (Xw.var (by decide) : IsE A aL _ (.v Zoj)) aX) rfl (fun v w hv=>.inl (ChgF.of_ext (by obtain⟨_,_,hE0⟩:=hv;exact hE0.x))) ?_
    clear H;intro bA bG hv;clear a;intro a H;obtain⟨_,rfl,aN⟩:=hv
    replace hS:=hS.new aN;simp only [List.cons_append,List.nil_append] at hS
    replace hW:=Nat.le_trans hW aN.x.size
    refine Zg 6 H rfl (Zb rfl) rfl (by kernel_rfl) (by kernel_rfl) (by kernel_rfl) (by kernel_rfl) (fun _ _ _ h=>h) ?_;clear H a;intro a H
    refine Zg 7 H rfl (Zb rfl) rfl (by kernel_rfl) (by kernel_rfl) (by kernel_rfl) (by kernel_rfl) (fun _ _ _ h=>h) ?_;clear H a;intro a H
    refine Zg 8 H rfl (Zb rfl) rfl (by kernel_rfl) (by kernel_rfl) (by kernel_rfl) (by kernel_rfl) (fun _ _ _ h=>h) ?_;clear H a;intro a H
    refine Qx (by kernel_rfl) ?_
    refine Za (wp_ret (Zh ?_))
    obtain rfl:=Option.some.inj hm
    replace hS:=St.optNone (fun (x : GWireCursor) b=>blkR b [v0_0,.int .i64 x.at_,.int .i64 x.bound_] 248) hS
    replace hS:=hS.pk1
    replace hS:=hS.pk1
    replace hS:=hS.pk2
    replace hS:=hS.tk3
    refine Ti H (.inr rfl) rfl (vs:=[.int .i64 0,.pointer none,bA]) (Xh rfl (Xh rfl (Xh rfl Qv))) ?_
    exact⟨_,_,rfl,hS⟩
  replace hm:=Zv hm aD
  refine wp_skip (Za (wp_seq (wp_region_lit (n_q H (Zc rfl) rfl (W_q (Zc rfl) rfl ?_)))));clear H a;intro a H
  obtain⟨bD,aO,aF,aY,aP⟩:=hS.frame (rs1:=[blkR b0 [v0_0,.int .i64 aA.2.2.2.at_,.int .i64 aA.2.2.2.bound_] 248])
  replace hm:=Zi hm;obtain⟨aQ,aZ,hm⟩:=hm
  refine Zj H rfl en178 (Zdz (A:=A) (fun w' hw=>hG _ (aF _ hw)) aO (a0:=(⟨a0.b_,aA.2.2.2.at_,aA.2.2.2.bound_⟩ : GWireCursor)) (fun w' hw=>ro0_b _ (aF _ hw)) aZ) rfl ?_
  clear H;intro bH aS hv;clear a;intro a H;obtain⟨bB,aR,rfl,a9⟩:=hv
  replace hS:=aP _ _ a9;simp only [List.cons_append,List.nil_append] at hS;clear aO aF aY aP
  refine n_q H (Zc rfl) rfl (W_q (Zk rfl rfl) rfl (W_q (Zk rfl rfl) rfl (W_q (Zb rfl) rfl (W_q (Zb rfl) rfl ?_))));clear H a;intro a H
  refine Ze (Za (wp_seq (wp_seq (wp_region_lit (n_q H (Zc rfl) rfl (W_q (Qo (Va Tryz.underlying39 rfl rfl (hS.any 2 rfl : IsE A aS aR aQ.2.1).form) (show _=Value.bool (!decide (aQ.2.1=.nil)) by rw [Xw.isNil (hS.any 2 rfl : IsE A aS aR aQ.2.1)])) rfl ?_))))));clear H a;intro a H
  refine Ze (Za (Zl H rfl (fun aG=>?_) (fun aG=>?_)))
  · replace hm:=Zu hm aG
    refine wp_seq (wp_region_lit (n_q H (Zc rfl) rfl (W_q (Zb rfl) rfl (W_q (Zb rfl) rfl (W_q (Zb rfl) rfl ?_)))));clear H a;intro a H
    refine Ze (Za (wp_ret (Zh ?_)))
    obtain rfl:=Option.some.inj hm
    replace hS:=St.optNone (fun (x : GWireCursor) b=>blkR b [v0_0,.int .i64 x.at_,.int .i64 x.bound_] 248) hS
    replace hS:=hS.pk3
    replace hS:=hS.pk1
    replace hS:=hS.pk2
    replace hS:=hS.tk3
    refine Ti H (.inr rfl) rfl (vs:=[.int .i64 0,.pointer none,aR]) (Xh rfl (Xh rfl (Xh rfl Qv))) ?_
    exact⟨_,_,rfl,hS⟩
  replace hm:=Zv hm aG
  refine wp_skip (Za (wp_seq (wp_region_lit (n_q H (Zc rfl) rfl (W_q (Zc rfl) rfl (W_q (Zb rfl) rfl (W_q (Zb rfl) rfl (W_q (Zb rfl) rfl ?_))))))));clear H a;intro a H
  refine Ze (Za (wp_ret ?_))
  obtain rfl:=Option.some.inj hm
  replace hS:=hS.dNil (A:=A)
  replace hS:=hS.pk2
  replace hS:=hS.pk2
  replace hS:=hS.tk3
  refine Ti H (.inr rfl) rfl (vs:=[.int .i64 aA.1,bB,.nilIface]) (Xh rfl (Xh rfl (Xh rfl Qv))) ?_
  exact⟨_,_,rfl,hS⟩
theorem Ke {w : World} {A : Nat → Addr} {fp : Nat → Prop} {b0 : Nat} {v0_0 : Value} {a0 : GWireCursor} (hG : ∀ w',ChgP fp w w' → EV A w') (hP : Sep w fp [blkR b0 [v0_0,.int .i64 a0.at_,.int .i64 a0.bound_] 248]) (ro0_b : ∀ w',ChgP fp w w' → SlR w' 1 (Zq eB) v0_0 a0.b_) {r : Int × ErrM × GWireCursor} (hm : Xp a0=some r) :
    Calls Tryz.prog 182 [.pointer (some ⟨b0,0,none⟩)].toArray w (Ret fun u w'=>∃ h_0,u=.tuple #[.int .i64 r.1,h_0] ∧ St fp w w' [blkR b0 [v0_0,.int .i64 r.2.2.at_,.int .i64 r.2.2.bound_] 248,erQ A h_0 r.2.1]):=by
  have hS:=St.init hP
  unfold Xp at hm
  refine enter Tryz.func182 rfl rfl rfl ?_;intro a H;dsimp only [Qk,Nat.zero_add,Nat.reduceAdd] at H
  refine wp_seq (wp_region_lit (n_q H (Zb rfl) rfl (W_q (Zb rfl) rfl ?_)));clear H a;intro a H
  refine Ze (Za (wp_seq (wp_region_lit (n_q H (Zc rfl) rfl ?_))));clear H a;intro a H
  replace hm:=Zi hm;obtain⟨aJ,aD,hm⟩:=hm
  refine Zj H rfl Zr1 (Za2 (A:=A) aD) rfl ?_
  clear H;intro aK aL hv;clear a;intro a H;obtain⟨rfl,aE⟩:=hv
  replace hS:=hS.ext aE
  obtain⟨aI,aB,aA,aF,aC⟩:=hS.frame (rs1:=[blkR b0 [v0_0,.int .i64 a0.at_,.int .i64 a0.bound_] 248])
  replace hm:=Zi hm;obtain⟨aM,aG,hm⟩:=hm
  refine Zj H rfl Zt8 (Gd (A:=A) (fun w' hw=>hG _ (aA _ hw)) aB (a0:=(⟨a0.b_,a0.at_,a0.bound_⟩ : GWireCursor)) (fun w' hw=>ro0_b _ (aA _ hw)) aG) rfl ?_
  clear H;intro aN aO hv;clear a;intro a H;obtain⟨aP,rfl,aH⟩:=hv
  replace hS:=aC _ _ aH;simp only [List.cons_append,List.nil_append] at hS;clear aB aA aF aC
  refine n_q H (Zk rfl rfl) rfl (W_q (Zk rfl rfl) rfl (W_q (Zb rfl) rfl (W_q (Zb rfl) rfl ?_)));clear H a;intro a H
  refine Ze (Za (wp_ret ?_))
  obtain rfl:=Option.some.inj hm
  refine Zda H (.inr rfl) rfl rfl rfl ?_
  exact⟨_,rfl,hS⟩
theorem Zjz {w : World} {A : Nat → Addr} {fp : Nat → Prop} {b0 : Nat} {v0_0 : Value} {a0 : GWireCursor} (hG : ∀ w',ChgP fp w w' → EV A w') (hP : Sep w fp [blkR b0 [v0_0,.int .i64 a0.at_,.int .i64 a0.bound_] 248]) (ro0_b : ∀ w',ChgP fp w w' → SlR w' 1 (Zq eB) v0_0 a0.b_) {r : GPagePlan × ErrM × GWireCursor} (hm : Gm a0=some r) :
    Calls Tryz.prog 179 [.pointer (some ⟨b0,0,none⟩)].toArray w (Ret fun u w'=>∃ h_0,u=.tuple #[.agg (Qc r.1).toArray,h_0] ∧ St fp w w' [blkR b0 [v0_0,.int .i64 r.2.2.at_,.int .i64 r.2.2.bound_] 248,erQ A h_0 r.2.1]):=by
  have hS:=St.init hP
  unfold Gm at hm
  refine enter Tryz.func179 rfl rfl rfl ?_;intro a H;dsimp only [Qk,Nat.zero_add,Nat.reduceAdd] at H
  refine wp_seq (wp_region_lit (Qr H Zfl rfl ?_))
  clear H;intro bE bF hN aP hs;clear a;intro a H
  replace hS:=hS.newBlk hN aP hs;clear hN hs
  refine n_q H (Zb rfl) rfl ?_;clear H a;intro a H
  refine Ze (Za (wp_seq (wp_region_lit (n_q H (Zc rfl) rfl ?_))));clear H a;intro a H
  replace hS:=hS.pk1
  obtain⟨bB,aF,aB,aQ,aG⟩:=hS.frame (rs1:=[blkR b0 [v0_0,.int .i64 a0.at_,.int .i64 a0.bound_] 248])
  replace hm:=Zi hm;obtain⟨aA,aR,hm⟩:=hm
  refine Zj H rfl Zmn (Ke (A:=A) (fun w' hw=>hG _ (aB _ hw)) aF (a0:=(⟨a0.b_,a0.at_,a0.bound_⟩ : GWireCursor)) (fun w' hw=>ro0_b _ (aB _ hw)) aR) rfl ?_
  clear H;intro bG aO hv;clear a;intro a H;obtain⟨aH,rfl,aS⟩:=hv
  replace hS:=aG _ _ aS;simp only [List.cons_append,List.nil_append] at hS;clear aF aB aQ aG
  refine n_q H (Zc rfl) rfl (W_q (Zk rfl rfl) rfl (W_q (Zk rfl rfl) rfl (W_q (Zb rfl) rfl (W_q (Zb rfl) rfl ?_))));clear H a;intro a H
  refine Ze (Za (wp_seq (wp_seq (wp_region_lit (n_q H (Zc rfl) rfl (W_q (Qo (Va Tryz.underlying39 rfl rfl (hS.any 1 rfl : IsE A aO aH aA.2.1).form) (show _=Value.bool (!decide (aA.2.1=.nil)) by rw [Xw.isNil (hS.any 1 rfl : IsE A aO aH aA.2.1)])) rfl ?_))))));clear H a;intro a H
  refine Ze (Za (Zl H rfl (fun aC=>?_) (fun aC=>?_)))
  · replace hm:=Zu hm aC
    refine wp_seq (wp_region_lit (n_q H (Zz (cs:=[.int .i64 0,.string ⟨#[]⟩]) Zfl Zpv Zpw rfl (by kernel_rfl)) rfl (W_q (Zc rfl) rfl ?_)));clear H a;intro a H
    replace hS:=hS.pk2
    refine Zr H rfl rfl (vs:=[.int .i64 0,.string ⟨#[]⟩]) rfl Tk (hS.blk 0 rfl) rfl (by simp) ?_
    clear H;intro bH hN aT hz;clear a;intro a H;replace hS:=hS.setBlk hN aT;clear hN hz
    refine n_q H (Zb rfl) rfl ?_;clear H a;intro a H
    refine Ze (Za (wp_ret (Zh ?_)))
    obtain rfl:=Option.some.inj hm
    replace hS:=hS.pk2
    replace hS:=hS.pk2
    refine Ti H (.inr rfl) rfl (vs:=[.agg #[.int .i64 0,.string ⟨#[]⟩],aH]) (Qm rfl ((hS.blk 2 rfl).ldAll Zk1 Tk) (Xh rfl Qv)) ?_
    replace hS:=hS.tk2
    exact⟨_,rfl,hS⟩
  replace hm:=Zv hm aC
  refine wp_skip (Za (wp_seq (wp_region_lit (n_q H (Zc rfl) rfl (W_q (Zc rfl) rfl ?_)))));clear H a;intro a H
  obtain⟨bC,aI,aJ,aU,aK⟩:=hS.frame (rs1:=[blkR b0 [v0_0,.int .i64 aA.2.2.at_,.int .i64 aA.2.2.bound_] 248])
  replace hm:=Zi hm;obtain⟨aE,aV,hm⟩:=hm
  refine Zj H rfl Zk9 (Xs (A:=A) aI (a0:=(⟨a0.b_,aA.2.2.at_,aA.2.2.bound_⟩ : GWireCursor)) (fun w' hw=>ro0_b _ (aJ _ hw)) aV) rfl ?_
  clear H;intro bI bJ hv;clear a;intro a H;obtain⟨rfl,aW⟩:=hv
  replace hS:=aK _ _ aW;simp only [List.cons_append,List.nil_append] at hS;clear aI aJ aU aK
  obtain⟨bD,aL,aD,aX,aM⟩:=hS.frame (rs1:=[blkR b0 [v0_0,.int .i64 aE.2.at_,.int .i64 aE.2.bound_] 248])
  replace hm:=Zi hm;obtain⟨aN,aY,hm⟩:=hm
  refine Zj H rfl Zud (Tb (A:=A) (fun w' hw=>hG _ (aD _ hw)) aL (a0:=(⟨a0.b_,aE.2.at_,aE.2.bound_⟩ : GWireCursor)) (fun w' hw=>ro0_b _ (aD _ hw)) aY) rfl ?_
  clear H;intro bK bL hv;clear a;intro a H;obtain⟨bM,bA,rfl,aZ⟩:=hv
  replace hS:=aM _ _ aZ;simp only [List.cons_append,List.nil_append] at hS;clear aL aD aX aM
  refine n_q H (Zc rfl) rfl (W_q (Zk rfl rfl) rfl (W_q (Zk rfl rfl) rfl (W_q (Zb rfl) rfl (W_q (Zb rfl) rfl ?_))));clear H a;intro a H
  refine Ze (Za (wp_seq (wp_region_lit (n_q H (Zc rfl) rfl (W_q (Zc rfl) rfl (W_q (Zhj Tryz.underlying100 Tryz.underlying5 Tryz.underlying9 rfl (fun w' hw=>(((hS.own 1 rfl).slr rfl (fun _ _=>rfl)).ext (Zq.mono _) hw))) rfl (W_q (Zz (cs:=[.int .i64 aA.1,.string (Za6 aN.1)]) Zfl Zpv Zpw rfl (by kernel_rfl)) rfl (W_q (Zc rfl) rfl ?_))))))));clear H a;intro a H
  replace hS:=hS.pk4
  refine Zr H rfl rfl (vs:=[.int .i64 aA.1,.string (Za6 aN.1)]) rfl Tk (hS.blk 0 rfl) rfl (by simp) ?_
  clear H;intro bN hN a9 hz;clear a;intro a H;replace hS:=hS.setBlk hN a9;clear hN hz
  refine n_q H (Zb rfl) rfl ?_;clear H a;intro a H
  refine Ze (Za (wp_ret ?_))
  obtain rfl:=Option.some.inj hm
  replace hS:=hS.pk3
  replace hS:=hS.pk2
  replace hS:=hS.tk3
  refine Ti H (.inr rfl) rfl (vs:=[.agg #[.int .i64 aA.1,.string (Za6 aN.1)],bA]) (Qm rfl ((hS.blk 2 rfl).ldAll Zk1 Tk) (Xh rfl Qv)) ?_
  replace hS:=hS.tk2
  exact⟨_,rfl,hS⟩
theorem Zcf {w : World} {A : Nat → Addr} {v0 : Value} {a0 : List (Value × ErrM)} (h0 : SlR w 1 (REr A) v0 a0) {r : Value × ErrM} (hm : Zdw a0=some r) :
    Calls Tryz.prog 183 [v0].toArray w (Ret fun u w'=>u=r.1 ∧ Ext w w'):=by
  have hS:=St.begin NB w
  unfold Zdw at hm
  refine enter Tryz.func183 rfl rfl rfl ?_;intro a H;dsimp only [Qk,Nat.zero_add,Nat.reduceAdd] at H
  refine wp_seq (wp_region_lit (n_q H (Zb rfl) rfl ?_));clear H a;intro a H
  refine Ze (Za (wp_seq (wp_seq (wp_region_lit (n_q H (Zc rfl) rfl ?_)))));clear H a;intro a H
  obtain⟨aU,aV,aB,aS,aT⟩:=SlR.formV (h0.ext (REr.mono A) hS.x)
  refine n_q H (Qf Tryz.underlying314 rfl aB) rfl (W_q (Zc rfl) rfl ?_);clear H a;intro a H
  refine Ze (Za (wp_block ?_))
  replace hm:=Zi hm;obtain⟨aI,hm,aJ⟩:=hm;replace hm:=Qg hm;obtain⟨aL,hm⟩:=hm
  refine Jd (σ:=Nat × Nat) (fun (m,aA)=>[(5,v0),(6,.int .i64 ((a0.length : Nat) : Int)),(7,.int .i64 ((aA : Nat) : Int))]) (fun (m,aA) wl=>Js (Jo a0) m aA=some aI ∧ St NB w wl []) (fun (m,aA)=>m) (aL,0) H ⟨rfl,rfl,rfl,trivial⟩ ⟨hm,hS⟩ ?_
  clear H hS hm a;intro xx a aW H hR;obtain⟨m,aA⟩:=xx;simp only [ent,List.map_cons,List.map_nil] at H;(try dsimp only at hR);obtain⟨hm,hS⟩:=hR
  replace hm:=Qa hm;obtain⟨aM,aX,rfl,hm,aD⟩:=hm;try dsimp only [Jo] at hm
  refine wp_seq (wp_region_lit (n_q H (Xz (i:=aA) (j:=a0.length) rfl rfl) rfl ?_));clear H a;intro a H
  refine Ze (Za (wp_seq (Zl H rfl (fun aC=>?_) (fun aC=>?_))))
  · replace hm:=Zu hm aC
    have aP : aA < a0.length:=of_decide_eq_true aC
    refine wp_skip (Za (wp_seq (wp_block (wp_seq (wp_region_lit ?_)))))
    replace hm:=Zi hm;obtain⟨aN,aE,hm⟩:=hm
    obtain⟨aQ,aG⟩:=SlR.adV (h0.ext (REr.mono A) hS.x) aB aE
    obtain⟨aR,aO,⟨rfl,aH⟩,aK⟩:=SlR.elV h0 aB aG aE
    refine n_q H (Jn (i:=aA) Tryz.underlying314 sz39 rfl aB aG rfl (Ho aE)) rfl (W_q (Zf rfl (LdX.ext (Zt0 Hv aK) hS.x)) rfl (W_q (Zb rfl) rfl ?_));clear H a;intro a H
    refine Ze (Za (wp_seq (wp_region_lit (n_q H (Zc rfl) rfl (W_q (Qo (Va Tryz.underlying39 rfl rfl (Xw.ext aH hS.x).form) (show _=Value.bool (!decide (aN.2=.nil)) by rw [Xw.isNil (Xw.ext aH hS.x)])) rfl ?_)))));clear H a;intro a H
    refine Ze (Za (Zl H rfl (fun aF=>?_) (fun aF=>?_)))
    · replace hm:=Zu hm aF
      refine wp_seq (wp_region_lit (n_q H (Zc rfl) rfl (W_q (Zb rfl) rfl ?_)));clear H a;intro a H
      refine Ze (Za (wp_ret (Zo (Zh (Zh (Zo (Zh ?_)))))))
      obtain rfl:=Option.some.inj hm;have hz : _=aI:=aD;subst hz;replace hm:=aJ;try dsimp only at hm
      obtain rfl:=Option.some.inj hm
      refine Je H (.inr rfl) rfl rfl ?_
      exact⟨rfl,hS.x⟩
    replace hm:=Zv hm aF
    refine wp_skip (Zm (Za (wp_region_lit (n_q H (Kb (i:=aA) (j:=1) rfl rfl (by omega)) rfl (W_q (Zc rfl) rfl ?_)))));clear H a;intro a H
    refine Ze (Za ?_)
    obtain rfl:=Option.some.inj hm
    exact Vh (aM,aA + 1) H ⟨rfl,rfl,rfl,trivial⟩ ⟨aD,hS⟩ (Nat.lt_succ_self _)
  replace hm:=Zv hm aC
  refine wp_exit (Zn (Zn (Zy ?_)))
  obtain rfl:=Option.some.inj hm;have hz : _=aI:=aD;subst hz;replace hm:=aJ;try dsimp only at hm
  refine Za (wp_seq (wp_region_lit (n_q H (Zb rfl) rfl ?_)));clear H a;intro a H
  refine Ze (Za (wp_ret ?_))
  obtain rfl:=Option.some.inj hm
  refine Je H (.inr rfl) rfl rfl ?_
  exact⟨rfl,hS.x⟩
theorem Zbs (ps : List (Value × ErrM)) : Zdw ps=some (pickE ps):=by
  have key : ∀ m k,k + m=ps.length → (Vj (Jo ps) k).bind (fun q=>match q with | .inl _=>some (.nilIface,.nil) | .inr p=>some p)=some (pickE (ps.drop k)):=by
    intro m
    induction m with
    | zero=>
      intro k hk
      have e : ps.drop k=[]:=List.drop_eq_nil_of_le (by omega)
      rw [Ka (show Jo ps k=some (.inr (.inl ())) by simp [Jo,show ¬ k < ps.length by omega]),e];rfl
    | succ m ih=>
      intro k hk
      have hlt : k < ps.length:=by omega
      have hx : ps[k]? = some ps[k]:=List.getElem?_eq_getElem hlt
      have hd : ps.drop k=ps[k] :: ps.drop (k + 1):=List.drop_eq_getElem_cons hlt
      by_cases e : ps[k].2=.nil
      · rw [Xi (show Jo ps k=some (.inl (k + 1)) by simp [Jo,hlt,e]),ih (k + 1) (by omega),hd]
        simp only [pickE,e,if_true]
      · rw [Ka (show Jo ps k=some (.inr (.inr ps[k])) by simp [Jo,hlt,e]),hd]
        simp only [pickE,e,if_false,Option.bind_some]
  exact key ps.length 0 (by omega)
theorem Td {w : World} {A : Nat → Addr} {fp : Nat → Prop} {b0 : Nat} {v0_0 : Value} {a0 : GWireCursor} (hG : ∀ w',ChgP fp w w' → EV A w') (hP : Sep w fp [blkR b0 [v0_0,.int .i64 a0.at_,.int .i64 a0.bound_] 248]) (ro0_b : ∀ w',ChgP fp w w' → SlR w' 1 (Zq eB) v0_0 a0.b_) {r : ErrM × GWireCursor} (hm : Jt a0=some r) :
    Calls Tryz.prog 184 [.pointer (some ⟨b0,0,none⟩)].toArray w (Ret fun u w'=>∃ h_0,u=h_0 ∧ St fp w w' [blkR b0 [v0_0,.int .i64 r.2.at_,.int .i64 r.2.bound_] 248,erQ A h_0 r.1]):=by
  have hS:=St.init hP
  unfold Jt at hm
  refine enter Tryz.func184 rfl rfl rfl ?_;intro a H;dsimp only [Qk,Nat.zero_add,Nat.reduceAdd] at H
  refine wp_seq (wp_region_lit (n_q H (Zb rfl) rfl ?_));clear H a;intro a H
  refine Ze (Za (wp_seq (wp_seq (wp_region_lit (n_q H (Zc rfl) rfl ?_)))));clear H a;intro a H
  obtain⟨aO,aC,aD,aJ,aE⟩:=hS.frame (rs1:=[blkR b0 [v0_0,.int .i64 a0.at_,.int .i64 a0.bound_] 248])
  replace hm:=Zi hm;obtain⟨aP,aK,hm⟩:=hm
  refine Zj H rfl Zk9 (Xs (A:=A) aC (a0:=(⟨a0.b_,a0.at_,a0.bound_⟩ : GWireCursor)) (fun w' hw=>ro0_b _ (aD _ hw)) aK) rfl ?_
  clear H;intro aQ aI hv;clear a;intro a H;obtain⟨rfl,aL⟩:=hv
  replace hS:=aE _ _ aL;simp only [List.cons_append,List.nil_append] at hS;clear aC aD aJ aE
  refine n_q H (Hp rfl rfl) rfl ?_;clear H a;intro a H
  refine Ze (Za (Zl H rfl (fun aA=>?_) (fun aA=>?_)))
  · replace hm:=Zu hm aA
    refine wp_seq (Gi [] 7 (by kernel_rfl) ?_)
    obtain⟨aF,aB⟩ : ∃ x,x=aI.drew:=⟨_,rfl⟩;rw [← aB];have aM : Ext aI aF:=by rw [aB];exact Ext.drew' _
    clear aB
    replace hS:=hS.ext aM
    have aG:=hS
    have hW:=Nat.le_refl aF.heap.size
    refine Zg 0 H rfl (Zc rfl) rfl (by kernel_rfl) (by kernel_rfl) (by kernel_rfl) (by kernel_rfl) (fun _ _ _ h=>h) ?_;clear H a;intro a H
    refine Zg 1 H rfl (Zp rfl) rfl (by kernel_rfl) (by kernel_rfl) (by kernel_rfl) (by kernel_rfl) (fun _ _ _ h=>h) ?_;clear H a;intro a H
    refine Zg 2 H rfl (Zd rfl Uk) rfl (by kernel_rfl) (by kernel_rfl) (by kernel_rfl) (by kernel_rfl) (fun _ _ _ h=>h) ?_;clear H a;intro a H
    refine Xo 3 H rfl (Zf rfl (LdC.old ((aG.blk 0 rfl).ld ag3 rfl) Ext.rfl' (Nat.le_refl _) (by simp))) rfl (by kernel_rfl) (by kernel_rfl) (by kernel_rfl) (by kernel_rfl) (fun _ _ _ h=>h) ?_;clear H a;intro a H
    refine Xo 4 H rfl (Zf rfl (LdC.old ((hG _ aG.chg).ld Zoi (by decide) Hv) Ext.rfl' (Nat.le_refl _) (by simp))) rfl (by kernel_rfl) (by kernel_rfl) (by kernel_rfl) (by kernel_rfl) (fun _ _ _ h=>h) ?_;clear H a;intro a H
    replace hm:=Zi hm;obtain⟨aR,aN,hm⟩:=hm
    refine Xu 5 (by kernel_rfl) ?_
    refine Xy 5 H rfl rfl Zk3 (Gs (A:=A) (Xw.var (by decide) : IsE A aF _ (.v Zoi)) aN) rfl (fun v w hv=>.inl (ChgF.of_ext (by obtain⟨_,_,hE0⟩:=hv;exact hE0.x))) ?_
    clear H;intro u32 aS hv;clear a;intro a H;obtain⟨_,rfl,aH⟩:=hv
    replace hS:=hS.new aH;simp only [List.cons_append,List.nil_append] at hS
    replace hW:=Nat.le_trans hW aH.x.size
    refine Zg 6 H rfl (Zb rfl) rfl (by kernel_rfl) (by kernel_rfl) (by kernel_rfl) (by kernel_rfl) (fun _ _ _ h=>h) ?_;clear H a;intro a H
    refine Qx (by kernel_rfl) ?_
    refine Za (wp_ret (Zh ?_))
    obtain rfl:=Option.some.inj hm
    replace hS:=hS.pk1
    refine Je H (.inr rfl) rfl rfl ?_
    exact⟨_,rfl,hS⟩
  replace hm:=Zv hm aA
  refine wp_skip (Za (wp_seq (wp_region_lit (n_q H (Zb rfl) rfl ?_))));clear H a;intro a H
  refine Ze (Za (wp_ret ?_))
  obtain rfl:=Option.some.inj hm
  replace hS:=hS.dNil (A:=A)
  replace hS:=hS.pk1
  refine Je H (.inr rfl) rfl rfl ?_
  exact⟨_,rfl,hS⟩
theorem Zj0 {w : World} {A : Nat → Addr} {fp : Nat → Prop} {b0 : Nat} {v0_0 : Value} {a0 : GWireCursor} (hG : ∀ w',ChgP fp w w' → EV A w') (hP : Sep w fp [blkR b0 [v0_0,.int .i64 a0.at_,.int .i64 a0.bound_] 248]) (ro0_b : ∀ w',ChgP fp w w' → SlR w' 1 (Zq eB) v0_0 a0.b_) {r : GProcPlan × ErrM × GWireCursor} (hm : Hy a0=some r) :
    Calls Tryz.prog 180 [.pointer (some ⟨b0,0,none⟩)].toArray w (Ret fun u w'=>∃ h_0,u=.tuple #[.agg (Zx r.1).toArray,h_0] ∧ St fp w w' [blkR b0 [v0_0,.int .i64 r.2.2.at_,.int .i64 r.2.2.bound_] 248,erQ A h_0 r.2.1]):=by
  have hS:=St.init hP
  unfold Hy at hm
  refine enter Tryz.func180 rfl rfl rfl ?_;intro a H;dsimp only [Qk,Nat.zero_add,Nat.reduceAdd] at H
  refine wp_seq (wp_region_lit (Qr H Zex rfl ?_))
  clear H;intro bL bS hN aW hs;clear a;intro a H
  replace hS:=hS.newBlk hN aW hs;clear hN hs
  refine n_q H (Zb rfl) rfl ?_;clear H a;intro a H
  refine Ze (Za (wp_seq (wp_region_lit (n_q H (Zc rfl) rfl ?_))));clear H a;intro a H
  replace hS:=hS.pk1
  obtain⟨bO,aO,aJ,aX,aP⟩:=hS.frame (rs1:=[blkR b0 [v0_0,.int .i64 a0.at_,.int .i64 a0.bound_] 248])
  replace hm:=Zi hm;obtain⟨aA,aY,hm⟩:=hm
  refine Zj H rfl Zue (Tc (A:=A) (fun w' hw=>hG _ (aJ _ hw)) aO (a0:=(⟨a0.b_,a0.at_,a0.bound_⟩ : GWireCursor)) (fun w' hw=>ro0_b _ (aJ _ hw)) aY) rfl ?_
  clear H;intro bT bU hv;clear a;intro a H;obtain⟨aD,rfl,aZ⟩:=hv
  replace hS:=aP _ _ aZ;simp only [List.cons_append,List.nil_append] at hS;clear aO aJ aX aP
  refine n_q H (Zc rfl) rfl (W_q (Zk rfl rfl) rfl (W_q (Zk rfl rfl) rfl (W_q (Zb rfl) rfl (W_q (Zb rfl) rfl ?_))));clear H a;intro a H
  refine Ze (Za (wp_seq (wp_region_lit (n_q H (Zc rfl) rfl ?_))));clear H a;intro a H
  obtain⟨bP,aQ,aK,a9,aR⟩:=hS.frame (rs1:=[blkR b0 [v0_0,.int .i64 aA.2.2.at_,.int .i64 aA.2.2.bound_] 248])
  replace hm:=Zi hm;obtain⟨aB,bA,hm⟩:=hm
  refine Zj H rfl Zmn (Ke (A:=A) (fun w' hw=>hG _ (aK _ hw)) aQ (a0:=(⟨a0.b_,aA.2.2.at_,aA.2.2.bound_⟩ : GWireCursor)) (fun w' hw=>ro0_b _ (aK _ hw)) bA) rfl ?_
  clear H;intro bV bW hv;clear a;intro a H;obtain⟨aE,rfl,bB⟩:=hv
  replace hS:=aR _ _ bB;simp only [List.cons_append,List.nil_append] at hS;clear aQ aK a9 aR
  refine n_q H (Zc rfl) rfl (W_q (Zk rfl rfl) rfl (W_q (Zk rfl rfl) rfl (W_q (Zb rfl) rfl (W_q (Zb rfl) rfl ?_))));clear H a;intro a H
  refine Ze (Za (wp_seq (wp_region_lit (n_q H (Zc rfl) rfl ?_))));clear H a;intro a H
  obtain⟨bQ,aS,aL,bC,aT⟩:=hS.frame (rs1:=[blkR b0 [v0_0,.int .i64 aB.2.2.at_,.int .i64 aB.2.2.bound_] 248])
  replace hm:=Zi hm;obtain⟨aC,bD,hm⟩:=hm
  refine Zj H rfl en103 (Zax (A:=A) (fun w' hw=>hG _ (aL _ hw)) aS (a0:=(⟨a0.b_,aB.2.2.at_,aB.2.2.bound_⟩ : GWireCursor)) (fun w' hw=>ro0_b _ (aL _ hw)) bD) rfl ?_
  clear H;intro bX bY hv;clear a;intro a H;obtain⟨aF,rfl,bE⟩:=hv
  replace hS:=aT _ _ bE;simp only [List.cons_append,List.nil_append] at hS;clear aS aL bC aT
  refine n_q H (Zc rfl) rfl (W_q (Zk rfl rfl) rfl (W_q (Zk rfl rfl) rfl (W_q (Zb rfl) rfl (W_q (Zb rfl) rfl ?_))));clear H a;intro a H
  refine Ze (Za (wp_seq (wp_region_lit (n_q H (Zc rfl) rfl (W_q (Zc rfl) rfl (W_q (Zc rfl) rfl (W_q (Zz (cs:=[.int .i64 aA.1,.int .i64 aB.1,.bool aC.1]) Zex Zrx Zry rfl (by kernel_rfl)) rfl (W_q (Zc rfl) rfl (W_q (Zc rfl) rfl (W_q (Zc rfl) rfl (W_q (Zc rfl) rfl ?_)))))))))));clear H a;intro a H
  obtain⟨bR,aU,aM,bF,aV⟩:=hS.frame (rs1:=[blkR b0 [v0_0,.int .i64 aC.2.2.at_,.int .i64 aC.2.2.bound_] 248])
  replace hm:=Zi hm;obtain⟨aG,bG,hm⟩:=hm
  refine Zj H rfl Zug (Td (A:=A) (fun w' hw=>hG _ (aM _ hw)) aU (a0:=(⟨a0.b_,aC.2.2.at_,aC.2.2.bound_⟩ : GWireCursor)) (fun w' hw=>ro0_b _ (aM _ hw)) bG) rfl ?_
  clear H;intro aH aN hv;clear a;intro a H;obtain⟨_,rfl,bH⟩:=hv
  replace hS:=aV _ _ bH;simp only [List.cons_append,List.nil_append] at hS;clear aU aM bF aV
  refine Qd H Tryz.underlying314 sz39 ze39 rfl rfl rfl (cs:=[aD,aE,aF,aH]) ((Qh (hS.any 4 rfl : IsE A aN aD aA.2.1).one rfl (by simp)).trans ((Qh (hS.any 3 rfl : IsE A aN aE aB.2.1).one rfl (by simp)).trans ((Qh (hS.any 2 rfl : IsE A aN aF aC.2.1).one rfl (by simp)).trans ((Qh (hS.any 1 rfl : IsE A aN aH aG.1).one rfl (by simp)).trans rfl)))) rfl ?_
  clear H;intro bM aI hN bI hs;clear a;intro a H
  replace hS:=hS.newBlk hN bI hs;clear hN hs
  refine Zj H rfl Zuf (Zcf (A:=A) (SlR.ofBlk (k:=1) (R:=REr A) [[aD],[aE],[aF],[aH]] [(aD,aA.2.1),(aE,aB.2.1),(aF,aC.2.1),(aH,aG.1)] (hS.blk 0 rfl) (DIn.cons rfl (by simp [(hS.any 5 rfl : IsE A aI aD aA.2.1).one]) ⟨rfl,(hS.any 5 rfl : IsE A aI aD aA.2.1)⟩ (DIn.cons rfl (by simp [(hS.any 4 rfl : IsE A aI aE aB.2.1).one]) ⟨rfl,(hS.any 4 rfl : IsE A aI aE aB.2.1)⟩ (DIn.cons rfl (by simp [(hS.any 3 rfl : IsE A aI aF aC.2.1).one]) ⟨rfl,(hS.any 3 rfl : IsE A aI aF aC.2.1)⟩ (DIn.cons rfl (by simp [(hS.any 2 rfl : IsE A aI aH aG.1).one]) ⟨rfl,(hS.any 2 rfl : IsE A aI aH aG.1)⟩ trivial)))) rfl (by simp [maxLen])) (Zbs _)) rfl ?_
  clear H;intro bZ bN hv;clear a;intro a H;obtain⟨rfl,bJ⟩:=hv;replace hS:=hS.ext bJ
  replace hS:=hS.pk2
  replace hS:=hS.pk3
  replace hS:=hS.pk4
  replace hS:=hS.pk5
  replace hS:=(St.pickE [(aD,aA.2.1),(aE,aB.2.1),(aF,aC.2.1),(aH,aG.1)] rfl hS : St fp w bN [erQ A ((pickE [(aD,aA.2.1),(aE,aB.2.1),(aF,aC.2.1),(aH,aG.1)]).1) (Zg1 [aA.2.1,aB.2.1,aC.2.1,aG.1]),blkR bM [aD,aE,aF,aH] 39,blkR b0 [v0_0,.int .i64 aG.2.at_,.int .i64 aG.2.bound_] 248,blkR bL [.int .i64 0,.int .i64 0,.bool false] 116])
  replace hS:=hS.pk3
  refine Zr H rfl rfl (vs:=[.int .i64 aA.1,.int .i64 aB.1,.bool aC.1]) rfl Tl (hS.blk 0 rfl) rfl (by simp) ?_
  clear H;intro b7 hN bK hz;clear a;intro a H;replace hS:=hS.setBlk hN bK;clear hN hz
  refine n_q H (Zb rfl) rfl ?_;clear H a;intro a H
  refine Ze (Za (wp_ret ?_))
  obtain rfl:=Option.some.inj hm
  replace hS:=hS.pk1
  replace hS:=hS.pk3
  replace hS:=hS.tk3
  refine Ti H (.inr rfl) rfl (vs:=[.agg #[.int .i64 aA.1,.int .i64 aB.1,.bool aC.1],(pickE [(aD,aA.2.1),(aE,aB.2.1),(aF,aC.2.1),(aH,aG.1)]).1]) (Qm rfl ((hS.blk 2 rfl).ldAll Zjs Tl) (Xh rfl Qv)) ?_
  replace hS:=hS.tk2
  exact⟨_,rfl,hS⟩
theorem Zhx {w : World} {A : Nat → Addr} {fp : Nat → Prop} {b0 : Nat} {v0_0 : Value} {a0 : GWireCursor} (hG : ∀ w',ChgP fp w w' → EV A w') (hP : Sep w fp [blkR b0 [v0_0,.int .i64 a0.at_,.int .i64 a0.bound_] 248]) (ro0_b : ∀ w',ChgP fp w w' → SlR w' 1 (Zq eB) v0_0 a0.b_) {r : GPortPlan × ErrM × GWireCursor} (hm : Ub a0=some r) :
    Calls Tryz.prog 181 [.pointer (some ⟨b0,0,none⟩)].toArray w (Ret fun u w'=>∃ h_0,u=.tuple #[.agg (Zw r.1).toArray,h_0] ∧ St fp w w' [blkR b0 [v0_0,.int .i64 r.2.2.at_,.int .i64 r.2.2.bound_] 248,erQ A h_0 r.2.1]):=by
  have hS:=St.init hP
  unfold Ub at hm
  refine enter Tryz.func181 rfl rfl rfl ?_;intro a H;dsimp only [Qk,Nat.zero_add,Nat.reduceAdd] at H
  refine wp_seq (wp_region_lit (Qr H Zfm rfl ?_))
  clear H;intro bT b8 hN bA hs;clear a;intro a H
  replace hS:=hS.newBlk hN bA hs;clear hN hs
  refine n_q H (Zb rfl) rfl ?_;clear H a;intro a H
  refine Ze (Za (wp_seq (wp_region_lit (n_q H (Zc rfl) rfl ?_))));clear H a;intro a H
  replace hS:=hS.pk1
  obtain⟨bW,aR,aM,bB,aS⟩:=hS.frame (rs1:=[blkR b0 [v0_0,.int .i64 a0.at_,.int .i64 a0.bound_] 248])
  replace hm:=Zi hm;obtain⟨aA,bC,hm⟩:=hm
  refine Zj H rfl Zmn (Ke (A:=A) (fun w' hw=>hG _ (aM _ hw)) aR (a0:=(⟨a0.b_,a0.at_,a0.bound_⟩ : GWireCursor)) (fun w' hw=>ro0_b _ (aM _ hw)) bC) rfl ?_
  clear H;intro b9 cA hv;clear a;intro a H;obtain⟨aE,rfl,bD⟩:=hv
  replace hS:=aS _ _ bD;simp only [List.cons_append,List.nil_append] at hS;clear aR aM bB aS
  refine n_q H (Zc rfl) rfl (W_q (Zk rfl rfl) rfl (W_q (Zk rfl rfl) rfl (W_q (Zb rfl) rfl (W_q (Zb rfl) rfl ?_))));clear H a;intro a H
  refine Ze (Za (wp_seq (wp_region_lit (n_q H (Zc rfl) rfl ?_))));clear H a;intro a H
  obtain⟨bX,aT,aN,bE,aU⟩:=hS.frame (rs1:=[blkR b0 [v0_0,.int .i64 aA.2.2.at_,.int .i64 aA.2.2.bound_] 248])
  replace hm:=Zi hm;obtain⟨aB,bF,hm⟩:=hm
  refine Zj H rfl Zmn (Ke (A:=A) (fun w' hw=>hG _ (aN _ hw)) aT (a0:=(⟨a0.b_,aA.2.2.at_,aA.2.2.bound_⟩ : GWireCursor)) (fun w' hw=>ro0_b _ (aN _ hw)) bF) rfl ?_
  clear H;intro cB cC hv;clear a;intro a H;obtain⟨aF,rfl,bG⟩:=hv
  replace hS:=aU _ _ bG;simp only [List.cons_append,List.nil_append] at hS;clear aT aN bE aU
  refine n_q H (Zc rfl) rfl (W_q (Zk rfl rfl) rfl (W_q (Zk rfl rfl) rfl (W_q (Zb rfl) rfl (W_q (Zb rfl) rfl ?_))));clear H a;intro a H
  refine Ze (Za (wp_seq (wp_region_lit (n_q H (Zc rfl) rfl ?_))));clear H a;intro a H
  obtain⟨bY,aV,aO,bH,aW⟩:=hS.frame (rs1:=[blkR b0 [v0_0,.int .i64 aB.2.2.at_,.int .i64 aB.2.2.bound_] 248])
  replace hm:=Zi hm;obtain⟨aC,bI,hm⟩:=hm
  refine Zj H rfl Zmn (Ke (A:=A) (fun w' hw=>hG _ (aO _ hw)) aV (a0:=(⟨a0.b_,aB.2.2.at_,aB.2.2.bound_⟩ : GWireCursor)) (fun w' hw=>ro0_b _ (aO _ hw)) bI) rfl ?_
  clear H;intro cD cF hv;clear a;intro a H;obtain⟨aG,rfl,bJ⟩:=hv
  replace hS:=aW _ _ bJ;simp only [List.cons_append,List.nil_append] at hS;clear aV aO bH aW
  refine n_q H (Zc rfl) rfl (W_q (Zk rfl rfl) rfl (W_q (Zk rfl rfl) rfl (W_q (Zb rfl) rfl (W_q (Zb rfl) rfl ?_))));clear H a;intro a H
  refine Ze (Za (wp_seq (wp_region_lit (n_q H (Zc rfl) rfl ?_))));clear H a;intro a H
  obtain⟨bZ,aX,aP,bK,aY⟩:=hS.frame (rs1:=[blkR b0 [v0_0,.int .i64 aC.2.2.at_,.int .i64 aC.2.2.bound_] 248])
  replace hm:=Zi hm;obtain⟨aD,bL,hm⟩:=hm
  refine Zj H rfl Zmn (Ke (A:=A) (fun w' hw=>hG _ (aP _ hw)) aX (a0:=(⟨a0.b_,aC.2.2.at_,aC.2.2.bound_⟩ : GWireCursor)) (fun w' hw=>ro0_b _ (aP _ hw)) bL) rfl ?_
  clear H;intro cG cH hv;clear a;intro a H;obtain⟨aH,rfl,bM⟩:=hv
  replace hS:=aY _ _ bM;simp only [List.cons_append,List.nil_append] at hS;clear aX aP bK aY
  refine n_q H (Zc rfl) rfl (W_q (Zk rfl rfl) rfl (W_q (Zk rfl rfl) rfl (W_q (Zb rfl) rfl (W_q (Zb rfl) rfl ?_))));clear H a;intro a H
  refine Ze (Za (wp_seq (wp_region_lit (n_q H (Zc rfl) rfl (W_q (Zc rfl) rfl (W_q (Zc rfl) rfl (W_q (Zc rfl) rfl (W_q (Zz (cs:=[.int .i64 aA.1,.int .i64 aB.1,.int .i64 aC.1,.int .i64 aD.1]) Zfm Zrz Zr0 rfl (by kernel_rfl)) rfl (W_q (Zc rfl) rfl (W_q (Zc rfl) rfl (W_q (Zc rfl) rfl (W_q (Zc rfl) rfl (W_q (Zc rfl) rfl ?_)))))))))))));clear H a;intro a H
  obtain⟨b7,aZ,aQ,bN,a9⟩:=hS.frame (rs1:=[blkR b0 [v0_0,.int .i64 aD.2.2.at_,.int .i64 aD.2.2.bound_] 248])
  replace hm:=Zi hm;obtain⟨aI,bO,hm⟩:=hm
  refine Zj H rfl Zug (Td (A:=A) (fun w' hw=>hG _ (aQ _ hw)) aZ (a0:=(⟨a0.b_,aD.2.2.at_,aD.2.2.bound_⟩ : GWireCursor)) (fun w' hw=>ro0_b _ (aQ _ hw)) bO) rfl ?_
  clear H;intro aJ aL hv;clear a;intro a H;obtain⟨_,rfl,bP⟩:=hv
  replace hS:=a9 _ _ bP;simp only [List.cons_append,List.nil_append] at hS;clear aZ aQ bN a9
  refine Qd H Tryz.underlying314 sz39 ze39 rfl rfl rfl (cs:=[aE,aF,aG,aH,aJ]) ((Qh (hS.any 5 rfl : IsE A aL aE aA.2.1).one rfl (by simp)).trans ((Qh (hS.any 4 rfl : IsE A aL aF aB.2.1).one rfl (by simp)).trans ((Qh (hS.any 3 rfl : IsE A aL aG aC.2.1).one rfl (by simp)).trans ((Qh (hS.any 2 rfl : IsE A aL aH aD.2.1).one rfl (by simp)).trans ((Qh (hS.any 1 rfl : IsE A aL aJ aI.1).one rfl (by simp)).trans rfl))))) rfl ?_
  clear H;intro bU aK hN bQ hs;clear a;intro a H
  replace hS:=hS.newBlk hN bQ hs;clear hN hs
  refine Zj H rfl Zuf (Zcf (A:=A) (SlR.ofBlk (k:=1) (R:=REr A) [[aE],[aF],[aG],[aH],[aJ]] [(aE,aA.2.1),(aF,aB.2.1),(aG,aC.2.1),(aH,aD.2.1),(aJ,aI.1)] (hS.blk 0 rfl) (DIn.cons rfl (by simp [(hS.any 6 rfl : IsE A aK aE aA.2.1).one]) ⟨rfl,(hS.any 6 rfl : IsE A aK aE aA.2.1)⟩ (DIn.cons rfl (by simp [(hS.any 5 rfl : IsE A aK aF aB.2.1).one]) ⟨rfl,(hS.any 5 rfl : IsE A aK aF aB.2.1)⟩ (DIn.cons rfl (by simp [(hS.any 4 rfl : IsE A aK aG aC.2.1).one]) ⟨rfl,(hS.any 4 rfl : IsE A aK aG aC.2.1)⟩ (DIn.cons rfl (by simp [(hS.any 3 rfl : IsE A aK aH aD.2.1).one]) ⟨rfl,(hS.any 3 rfl : IsE A aK aH aD.2.1)⟩ (DIn.cons rfl (by simp [(hS.any 2 rfl : IsE A aK aJ aI.1).one]) ⟨rfl,(hS.any 2 rfl : IsE A aK aJ aI.1)⟩ trivial))))) rfl (by simp [maxLen])) (Zbs _)) rfl ?_
  clear H;intro cI bV hv;clear a;intro a H;obtain⟨rfl,bR⟩:=hv;replace hS:=hS.ext bR
  replace hS:=hS.pk2
  replace hS:=hS.pk3
  replace hS:=hS.pk4
  replace hS:=hS.pk5
  replace hS:=hS.pk6
  replace hS:=(St.pickE [(aE,aA.2.1),(aF,aB.2.1),(aG,aC.2.1),(aH,aD.2.1),(aJ,aI.1)] rfl hS : St fp w bV [erQ A ((pickE [(aE,aA.2.1),(aF,aB.2.1),(aG,aC.2.1),(aH,aD.2.1),(aJ,aI.1)]).1) (Zg1 [aA.2.1,aB.2.1,aC.2.1,aD.2.1,aI.1]),blkR bU [aE,aF,aG,aH,aJ] 39,blkR b0 [v0_0,.int .i64 aI.2.at_,.int .i64 aI.2.bound_] 248,blkR bT [.int .i64 0,.int .i64 0,.int .i64 0,.int .i64 0] 118])
  replace hS:=hS.pk3
  refine Zr H rfl rfl (vs:=[.int .i64 aA.1,.int .i64 aB.1,.int .i64 aC.1,.int .i64 aD.1]) rfl Us (hS.blk 0 rfl) rfl (by simp) ?_
  clear H;intro cJ hN bS hz;clear a;intro a H;replace hS:=hS.setBlk hN bS;clear hN hz
  refine n_q H (Zb rfl) rfl ?_;clear H a;intro a H
  refine Ze (Za (wp_ret ?_))
  obtain rfl:=Option.some.inj hm
  replace hS:=hS.pk1
  replace hS:=hS.pk3
  replace hS:=hS.tk3
  refine Ti H (.inr rfl) rfl (vs:=[.agg #[.int .i64 aA.1,.int .i64 aB.1,.int .i64 aC.1,.int .i64 aD.1],(pickE [(aE,aA.2.1),(aF,aB.2.1),(aG,aC.2.1),(aH,aD.2.1),(aJ,aI.1)]).1]) (Qm rfl ((hS.blk 2 rfl).ldAll Zdq Us) (Xh rfl Qv)) ?_
  replace hS:=hS.tk2
  exact⟨_,rfl,hS⟩
theorem Zlb {w : World} {A : Nat → Addr} {fp : Nat → Prop} {b0 : Nat} {v0_0 : Value} {v0_1 : Value} {v0_2 : Value} {v0_3 : Value} {a0 : GPlan} {a1 : Int} {b2 : Nat} {v2_0 : Value} {a2 : GWireCursor} (hG : ∀ w',ChgP fp w w' → EV A w') (hP : Sep w fp [blkR b0 [.int .i64 a0.Id,.bool a0.Mobile,v0_0,v0_1,v0_2,.int .i64 a0.Events,v0_3] 27,ownR 114 2 v0_0 a0.Pages.length (a0.Pages.flatMap Qc),ownR 116 3 v0_1 a0.Procs.length (a0.Procs.flatMap Zx),ownR 118 4 v0_2 a0.Ports.length (a0.Ports.flatMap Zw),ownR 3 1 v0_3 a0.Sems.length (a0.Sems.flatMap eI),blkR b2 [v2_0,.int .i64 a2.at_,.int .i64 a2.bound_] 248]) (ro2_b : ∀ w',ChgP fp w w' → SlR w' 1 (Zq eB) v2_0 a2.b_) {r : ErrM × GPlan × GWireCursor} (hm : Ju a0 a1 a2=some r) :
    Calls Tryz.prog 106 [.pointer (some ⟨b0,0,none⟩),.int .i64 a1,.pointer (some ⟨b2,0,none⟩)].toArray w (Ret fun u w'=>∃ h_0 h_1 h_2 h_3 h_4,u=h_0 ∧ St fp w w' [blkR b0 [.int .i64 r.2.1.Id,.bool r.2.1.Mobile,h_1,h_2,h_3,.int .i64 r.2.1.Events,h_4] 27,ownR 114 2 h_1 r.2.1.Pages.length (r.2.1.Pages.flatMap Qc),ownR 116 3 h_2 r.2.1.Procs.length (r.2.1.Procs.flatMap Zx),ownR 118 4 h_3 r.2.1.Ports.length (r.2.1.Ports.flatMap Zw),ownR 3 1 h_4 r.2.1.Sems.length (r.2.1.Sems.flatMap eI),blkR b2 [v2_0,.int .i64 r.2.2.at_,.int .i64 r.2.2.bound_] 248,erQ A h_0 r.1]):=by
  have hS:=St.init hP
  unfold Ju at hm
  refine enter Tryz.func106 rfl rfl rfl ?_;intro a H;dsimp only [Qk,Nat.zero_add,Nat.reduceAdd] at H
  refine wp_seq (wp_region_lit (n_q H (Zb rfl) rfl ?_));clear H a;intro a H
  refine Ze (Za (wp_seq (wp_seq (wp_region_lit (n_q H (Zc rfl) rfl ?_)))));clear H a;intro a H
  refine Ze (Za (wp_block (wp_seq (wp_region_lit (n_q H (Ky rfl rfl) rfl (W_q (Zb rfl) rfl ?_))))));clear H a;intro a H
  refine Ze (Za (Zl H rfl (fun aW=>?_) (fun aW=>?_)))
  · replace hm:=Zu hm aW
    refine wp_seq (wp_region_lit (n_q H (Zc rfl) rfl ?_));clear H a;intro a H
    replace hS:=hS.pk5
    obtain⟨eZ,bR,aX,dK,bS⟩:=hS.frame (rs1:=[blkR b2 [v2_0,.int .i64 a2.at_,.int .i64 a2.bound_] 248])
    replace hm:=Zi hm;obtain⟨aU,dL,hm⟩:=hm
    refine Zj H rfl en179 (Zjz (A:=A) (fun w' hw=>hG _ (aX _ hw)) bR (a0:=(⟨a2.b_,a2.at_,a2.bound_⟩ : GWireCursor)) (fun w' hw=>ro2_b _ (aX _ hw)) dL) rfl ?_
    clear H;intro fS fT hv;clear a;intro a H;obtain⟨fU,rfl,dM⟩:=hv
    replace hS:=bS _ _ dM;simp only [List.cons_append,List.nil_append] at hS;clear bR aX dK bS
    refine n_q H (Zc rfl) rfl (W_q (Zk rfl rfl) rfl (W_q (Zk rfl rfl) rfl ?_));clear H a;intro a H
    refine Qr H Zfl rfl ?_
    clear H;intro fV fW hN dN hs;clear a;intro a H
    replace hS:=hS.newBlk hN dN hs;clear hN hs
    refine Zr H rfl rfl (vs:=[.int .i64 aU.1.Rights,.string aU.1.Init]) rfl Tk (hS.blk 0 rfl) rfl (by simp) ?_
    clear H;intro dH hN dO hz;clear a;intro a H;replace hS:=hS.setBlk hN dO;clear hN hz
    refine n_q H (Zb rfl) rfl ?_;clear H a;intro a H
    refine Ze (Za (wp_seq (Gi [] 7 (by kernel_rfl) ?_)))
    obtain⟨bT,aY⟩ : ∃ x,x=dH.drew:=⟨_,rfl⟩;rw [← aY];have dP : Ext dH bT:=by rw [aY];exact Ext.drew' _
    clear aY
    replace hS:=hS.ext dP
    have bU:=hS
    have hW:=Nat.le_refl bT.heap.size
    refine Zg 0 H rfl (Zc rfl) rfl (by kernel_rfl) (by kernel_rfl) (by kernel_rfl) (by kernel_rfl) (fun _ _ _ h=>h) ?_;clear H a;intro a H
    refine Zg 1 H rfl (Zc rfl) rfl (by kernel_rfl) (by kernel_rfl) (by kernel_rfl) (by kernel_rfl) (fun _ _ _ h=>h) ?_;clear H a;intro a H
    refine Zg 2 H rfl (Zp rfl) rfl (by kernel_rfl) (by kernel_rfl) (by kernel_rfl) (by kernel_rfl) (fun _ _ _ h=>h) ?_;clear H a;intro a H
    refine Zg 3 H rfl (Zd rfl Vs) rfl (by kernel_rfl) (by kernel_rfl) (by kernel_rfl) (by kernel_rfl) (fun _ _ _ h=>h) ?_;clear H a;intro a H
    refine Xo 4 H rfl (Zf rfl (LdC.old ((bU.blk 3 rfl).ld Zgt rfl) Ext.rfl' (Nat.le_refl _) (by simp))) rfl (by kernel_rfl) (by kernel_rfl) (by kernel_rfl) (by kernel_rfl) (fun _ _ _ h=>h) ?_;clear H a;intro a H
    refine Wj 5 4 H rfl (Zf rfl (LdC.old ((bU.blk 0 rfl).ldAll Zk1 Tk) Ext.rfl' (Nat.le_refl _) (by simp))) rfl (by kernel_rfl) (by kernel_rfl) (by kernel_rfl) (by kernel_rfl) (fun _ _ _ h=>h) ?_;clear H a;intro a H
    refine Ki 6 H rfl Tryz.underlying22 Tk Zfl rfl rfl rfl (cs:=[.int .i64 aU.1.Rights,.string aU.1.Init]) (by kernel_rfl) rfl (by kernel_rfl) ?_
    clear H;intro eM fX hN bV hs;clear a;intro a H
    have eJ : bT.heap.size ≤ eM:=hs ▸ hW
    replace hS:=hS.newBlk hN bV hs;clear hN hs
    replace hW:=Nat.le_trans hW bV.size
    replace hS:=hS.blkOwnL (e:=Qc) (k:=2) [aU.1] rfl rfl (by simp [maxLen])
    replace hS:=hS.pk5
    replace hm:=Tj hm;obtain⟨dQ,hm⟩:=hm
    refine Zim (e:=Qc) 7 H rfl rfl rfl Tryz.underlying22 Tryz.underlying22 (by simp) Zt5 (hS.own 0 rfl) (((hS.own 1 rfl).slr rfl (fun _ _=>rfl)).src (fun _ _=>rfl)) Zb9 dQ (by simp only [maxLen];omega) rfl (by kernel_rfl) (.inr (by kernel_rfl)) ?_
    clear H;intro fY fZ hN bW hb;clear a;intro a H;replace hS:=hS.setOwn hN bW hb;clear hN hb
    replace hW:=Nat.le_trans hW bW.size
    refine Zg 8 H rfl (Zp rfl) rfl (by kernel_rfl) (by kernel_rfl) (by kernel_rfl) (by kernel_rfl) (fun _ _ _ h=>h) ?_;clear H a;intro a H
    refine Zg 9 H rfl (Zd rfl Vs) rfl (by kernel_rfl) (by kernel_rfl) (by kernel_rfl) (by kernel_rfl) (fun _ _ _ h=>h) ?_;clear H a;intro a H
    replace hS:=hS.pk5
    refine Zdc 10 H rfl rfl rfl sz22 (hS.blk 0 rfl) (by simp) (((hS.own 1 rfl).slr rfl (fun _ _=>rfl))).one (by kernel_rfl) (.inr (by kernel_rfl)) ?_
    clear H;intro gA hN bX hz;clear a;intro a H;replace hS:=hS.setBlk hN bX;clear hN hz;replace hW:=Nat.le_trans hW bX.size
    try simp only [List.set_cons_succ,List.set_cons_zero] at hS
    refine Qx (by kernel_rfl) ?_
    refine Za (wp_seq (wp_region_lit (n_q H (Zc rfl) rfl (W_q (Zb rfl) rfl ?_))));clear H a;intro a H
    refine Ze (Za (wp_ret (Zo (Zh ?_))))
    obtain rfl:=Option.some.inj hm
    replace hS:=hS.pk5
    replace hS:=hS.pk5
    replace hS:=hS.pk8
    replace hS:=hS.pk8
    replace hS:=hS.pk8
    replace hS:=hS.pk6
    replace hS:=hS.pk6
    replace hS:=hS.tk7
    refine Je H (.inr rfl) rfl rfl ?_
    exact⟨_,_,_,_,_,rfl,hS⟩
  replace hm:=Zv hm aW
  refine wp_seq (wp_region_lit (n_q H (Ky rfl rfl) rfl (W_q (Zb rfl) rfl ?_)));clear H a;intro a H
  refine Ze (Za (Zl H rfl (fun aZ=>?_) (fun aZ=>?_)))
  · replace hm:=Zu hm aZ
    refine wp_seq (wp_region_lit (n_q H (Zc rfl) rfl ?_));clear H a;intro a H
    replace hS:=hS.pk5
    obtain⟨e8,bY,a9,dR,bZ⟩:=hS.frame (rs1:=[blkR b2 [v2_0,.int .i64 a2.at_,.int .i64 a2.bound_] 248])
    replace hm:=Zi hm;obtain⟨aK,dS,hm⟩:=hm
    refine Zj H rfl en180 (Zj0 (A:=A) (fun w' hw=>hG _ (a9 _ hw)) bY (a0:=(⟨a2.b_,a2.at_,a2.bound_⟩ : GWireCursor)) (fun w' hw=>ro2_b _ (a9 _ hw)) dS) rfl ?_
    clear H;intro gB gC hv;clear a;intro a H;obtain⟨gD,rfl,dT⟩:=hv
    replace hS:=bZ _ _ dT;simp only [List.cons_append,List.nil_append] at hS;clear bY a9 dR bZ
    refine n_q H (Zc rfl) rfl (W_q (Zk rfl rfl) rfl (W_q (Zk rfl rfl) rfl ?_));clear H a;intro a H
    refine Qr H Zex rfl ?_
    clear H;intro gE gF hN dU hs;clear a;intro a H
    replace hS:=hS.newBlk hN dU hs;clear hN hs
    refine Zr H rfl rfl (vs:=[.int .i64 aK.1.Entry,.int .i64 aK.1.Prio,.bool aK.1.Auto]) rfl Tl (hS.blk 0 rfl) rfl (by simp) ?_
    clear H;intro dI hN dV hz;clear a;intro a H;replace hS:=hS.setBlk hN dV;clear hN hz
    refine n_q H (Zb rfl) rfl ?_;clear H a;intro a H
    refine Ze (Za (wp_seq (Gi [] 7 (by kernel_rfl) ?_)))
    obtain⟨b7,bA⟩ : ∃ x,x=dI.drew:=⟨_,rfl⟩;rw [← bA];have dW : Ext dI b7:=by rw [bA];exact Ext.drew' _
    clear bA
    replace hS:=hS.ext dW
    have b8:=hS
    have hW:=Nat.le_refl b7.heap.size
    refine Zg 0 H rfl (Zc rfl) rfl (by kernel_rfl) (by kernel_rfl) (by kernel_rfl) (by kernel_rfl) (fun _ _ _ h=>h) ?_;clear H a;intro a H
    refine Zg 1 H rfl (Zc rfl) rfl (by kernel_rfl) (by kernel_rfl) (by kernel_rfl) (by kernel_rfl) (fun _ _ _ h=>h) ?_;clear H a;intro a H
    refine Zg 2 H rfl (Zp rfl) rfl (by kernel_rfl) (by kernel_rfl) (by kernel_rfl) (by kernel_rfl) (fun _ _ _ h=>h) ?_;clear H a;intro a H
    refine Zg 3 H rfl (Zd rfl Ur) rfl (by kernel_rfl) (by kernel_rfl) (by kernel_rfl) (by kernel_rfl) (fun _ _ _ h=>h) ?_;clear H a;intro a H
    refine Xo 4 H rfl (Zf rfl (LdC.old ((b8.blk 3 rfl).ld Zii rfl) Ext.rfl' (Nat.le_refl _) (by simp))) rfl (by kernel_rfl) (by kernel_rfl) (by kernel_rfl) (by kernel_rfl) (fun _ _ _ h=>h) ?_;clear H a;intro a H
    refine Wj 5 4 H rfl (Zf rfl (LdC.old ((b8.blk 0 rfl).ldAll Zjs Tl) Ext.rfl' (Nat.le_refl _) (by simp))) rfl (by kernel_rfl) (by kernel_rfl) (by kernel_rfl) (by kernel_rfl) (fun _ _ _ h=>h) ?_;clear H a;intro a H
    refine Ki 6 H rfl Tryz.underlying23 Tl Zex rfl rfl rfl (cs:=[.int .i64 aK.1.Entry,.int .i64 aK.1.Prio,.bool aK.1.Auto]) (by kernel_rfl) rfl (by kernel_rfl) ?_
    clear H;intro eN gG hN b9 hs;clear a;intro a H
    have eK : b7.heap.size ≤ eN:=hs ▸ hW
    replace hS:=hS.newBlk hN b9 hs;clear hN hs
    replace hW:=Nat.le_trans hW b9.size
    replace hS:=hS.blkOwnL (e:=Zx) (k:=3) [aK.1] rfl rfl (by simp [maxLen])
    replace hS:=hS.pk6
    replace hm:=Tj hm;obtain⟨dX,hm⟩:=hm
    refine Zim (e:=Zx) 7 H rfl rfl rfl Tryz.underlying23 Tryz.underlying23 (by simp) Zt6 (hS.own 0 rfl) (((hS.own 1 rfl).slr rfl (fun _ _=>rfl)).src (fun _ _=>rfl)) Zca dX (by simp only [maxLen];omega) rfl (by kernel_rfl) (.inr (by kernel_rfl)) ?_
    clear H;intro gH gI hN cA hb;clear a;intro a H;replace hS:=hS.setOwn hN cA hb;clear hN hb
    replace hW:=Nat.le_trans hW cA.size
    refine Zg 8 H rfl (Zp rfl) rfl (by kernel_rfl) (by kernel_rfl) (by kernel_rfl) (by kernel_rfl) (fun _ _ _ h=>h) ?_;clear H a;intro a H
    refine Zg 9 H rfl (Zd rfl Ur) rfl (by kernel_rfl) (by kernel_rfl) (by kernel_rfl) (by kernel_rfl) (fun _ _ _ h=>h) ?_;clear H a;intro a H
    replace hS:=hS.pk5
    refine Zdc 10 H rfl rfl rfl sz23 (hS.blk 0 rfl) (by simp) (((hS.own 1 rfl).slr rfl (fun _ _=>rfl))).one (by kernel_rfl) (.inr (by kernel_rfl)) ?_
    clear H;intro gJ hN cB hz;clear a;intro a H;replace hS:=hS.setBlk hN cB;clear hN hz;replace hW:=Nat.le_trans hW cB.size
    try simp only [List.set_cons_succ,List.set_cons_zero] at hS
    refine Qx (by kernel_rfl) ?_
    refine Za (wp_seq (wp_region_lit (n_q H (Zc rfl) rfl (W_q (Zb rfl) rfl ?_))));clear H a;intro a H
    refine Ze (Za (wp_ret (Zo (Zh ?_))))
    obtain rfl:=Option.some.inj hm
    replace hS:=hS.pk5
    replace hS:=hS.pk5
    replace hS:=hS.pk8
    replace hS:=hS.pk8
    replace hS:=hS.pk5
    replace hS:=hS.pk8
    replace hS:=hS.pk6
    replace hS:=hS.tk7
    refine Je H (.inr rfl) rfl rfl ?_
    exact⟨_,_,_,_,_,rfl,hS⟩
  replace hm:=Zv hm aZ
  refine wp_seq (wp_region_lit (n_q H (Ky rfl rfl) rfl (W_q (Zb rfl) rfl ?_)));clear H a;intro a H
  refine Ze (Za (Zl H rfl (fun bB=>?_) (fun bB=>?_)))
  · replace hm:=Zu hm bB
    refine wp_seq (wp_region_lit (n_q H (Zc rfl) rfl ?_));clear H a;intro a H
    replace hS:=hS.pk5
    obtain⟨e9,cC,bC,dY,cD⟩:=hS.frame (rs1:=[blkR b2 [v2_0,.int .i64 a2.at_,.int .i64 a2.bound_] 248])
    replace hm:=Zi hm;obtain⟨aH,dZ,hm⟩:=hm
    refine Zj H rfl en181 (Zhx (A:=A) (fun w' hw=>hG _ (bC _ hw)) cC (a0:=(⟨a2.b_,a2.at_,a2.bound_⟩ : GWireCursor)) (fun w' hw=>ro2_b _ (bC _ hw)) dZ) rfl ?_
    clear H;intro gK gL hv;clear a;intro a H;obtain⟨gM,rfl,d5⟩:=hv
    replace hS:=cD _ _ d5;simp only [List.cons_append,List.nil_append] at hS;clear cC bC dY cD
    refine n_q H (Zc rfl) rfl (W_q (Zk rfl rfl) rfl (W_q (Zk rfl rfl) rfl ?_));clear H a;intro a H
    refine Qr H Zfm rfl ?_
    clear H;intro gN gO hN d7 hs;clear a;intro a H
    replace hS:=hS.newBlk hN d7 hs;clear hN hs
    refine Zr H rfl rfl (vs:=[.int .i64 aH.1.Kind,.int .i64 aH.1.Size,.int .i64 aH.1.Depth,.int .i64 aH.1.Refresh]) rfl Us (hS.blk 0 rfl) rfl (by simp) ?_
    clear H;intro dJ hN d8 hz;clear a;intro a H;replace hS:=hS.setBlk hN d8;clear hN hz
    refine n_q H (Zb rfl) rfl ?_;clear H a;intro a H
    refine Ze (Za (wp_seq (Gi [] 7 (by kernel_rfl) ?_)))
    obtain⟨cF,bD⟩ : ∃ x,x=dJ.drew:=⟨_,rfl⟩;rw [← bD];have d9 : Ext dJ cF:=by rw [bD];exact Ext.drew' _
    clear bD
    replace hS:=hS.ext d9
    have cG:=hS
    have hW:=Nat.le_refl cF.heap.size
    refine Zg 0 H rfl (Zc rfl) rfl (by kernel_rfl) (by kernel_rfl) (by kernel_rfl) (by kernel_rfl) (fun _ _ _ h=>h) ?_;clear H a;intro a H
    refine Zg 1 H rfl (Zc rfl) rfl (by kernel_rfl) (by kernel_rfl) (by kernel_rfl) (by kernel_rfl) (fun _ _ _ h=>h) ?_;clear H a;intro a H
    refine Zg 2 H rfl (Zp rfl) rfl (by kernel_rfl) (by kernel_rfl) (by kernel_rfl) (by kernel_rfl) (fun _ _ _ h=>h) ?_;clear H a;intro a H
    refine Zg 3 H rfl (Zd rfl Gp) rfl (by kernel_rfl) (by kernel_rfl) (by kernel_rfl) (by kernel_rfl) (fun _ _ _ h=>h) ?_;clear H a;intro a H
    refine Xo 4 H rfl (Zf rfl (LdC.old ((cG.blk 3 rfl).ld Zi7 rfl) Ext.rfl' (Nat.le_refl _) (by simp))) rfl (by kernel_rfl) (by kernel_rfl) (by kernel_rfl) (by kernel_rfl) (fun _ _ _ h=>h) ?_;clear H a;intro a H
    refine Wj 5 4 H rfl (Zf rfl (LdC.old ((cG.blk 0 rfl).ldAll Zdq Us) Ext.rfl' (Nat.le_refl _) (by simp))) rfl (by kernel_rfl) (by kernel_rfl) (by kernel_rfl) (by kernel_rfl) (fun _ _ _ h=>h) ?_;clear H a;intro a H
    refine Ki 6 H rfl Tryz.underlying24 Us Zfm rfl rfl rfl (cs:=[.int .i64 aH.1.Kind,.int .i64 aH.1.Size,.int .i64 aH.1.Depth,.int .i64 aH.1.Refresh]) (by kernel_rfl) rfl (by kernel_rfl) ?_
    clear H;intro eO gP hN cH hs;clear a;intro a H
    have eL : cF.heap.size ≤ eO:=hs ▸ hW
    replace hS:=hS.newBlk hN cH hs;clear hN hs
    replace hW:=Nat.le_trans hW cH.size
    replace hS:=hS.blkOwnL (e:=Zw) (k:=4) [aH.1] rfl rfl (by simp [maxLen])
    replace hS:=hS.pk7
    replace hm:=Tj hm;obtain⟨eA,hm⟩:=hm
    refine Zim (e:=Zw) 7 H rfl rfl rfl Tryz.underlying24 Tryz.underlying24 (by simp) Zt7 (hS.own 0 rfl) (((hS.own 1 rfl).slr rfl (fun _ _=>rfl)).src (fun _ _=>rfl)) Zcb eA (by simp only [maxLen];omega) rfl (by kernel_rfl) (.inr (by kernel_rfl)) ?_
    clear H;intro fA gQ hN bF hb;clear a;intro a H;replace hS:=hS.setOwn hN bF hb;clear hN hb
    replace hW:=Nat.le_trans hW bF.size
    refine Zg 8 H rfl (Zp rfl) rfl (by kernel_rfl) (by kernel_rfl) (by kernel_rfl) (by kernel_rfl) (fun _ _ _ h=>h) ?_;clear H a;intro a H
    refine Zg 9 H rfl (Zd rfl Gp) rfl (by kernel_rfl) (by kernel_rfl) (by kernel_rfl) (by kernel_rfl) (fun _ _ _ h=>h) ?_;clear H a;intro a H
    replace hS:=hS.pk5
    refine Zdc 10 H rfl rfl rfl sz24 (hS.blk 0 rfl) (by simp) (((hS.own 1 rfl).slr rfl (fun _ _=>rfl))).one (by kernel_rfl) (.inr (by kernel_rfl)) ?_
    clear H;intro fB hN bG hz;clear a;intro a H;replace hS:=hS.setBlk hN bG;clear hN hz;replace hW:=Nat.le_trans hW bG.size
    try simp only [List.set_cons_succ,List.set_cons_zero] at hS
    refine Qx (by kernel_rfl) ?_
    refine Za (wp_seq (wp_region_lit (n_q H (Zc rfl) rfl (W_q (Zb rfl) rfl ?_))));clear H a;intro a H
    refine Ze (Za (wp_ret (Zo (Zh ?_))))
    obtain rfl:=Option.some.inj hm
    replace hS:=hS.pk5
    replace hS:=hS.pk5
    replace hS:=hS.pk8
    replace hS:=hS.pk4
    replace hS:=hS.pk8
    replace hS:=hS.pk8
    replace hS:=hS.pk6
    replace hS:=hS.tk7
    refine Je H (.inr rfl) rfl rfl ?_
    exact⟨_,_,_,_,_,rfl,hS⟩
  replace hm:=Zv hm bB
  refine wp_seq (wp_region_lit (n_q H (Ky rfl rfl) rfl (W_q (Zb rfl) rfl ?_)));clear H a;intro a H
  refine Ze (Za (Zl H rfl (fun aM=>?_) (fun aM=>?_)))
  · replace hm:=Zu hm aM
    refine wp_seq (wp_region_lit (n_q H (Zc rfl) rfl ?_));clear H a;intro a H
    replace hS:=hS.pk5
    obtain⟨eT,bH,aN,cM,bI⟩:=hS.frame (rs1:=[blkR b2 [v2_0,.int .i64 a2.at_,.int .i64 a2.bound_] 248])
    replace hm:=Zi hm;obtain⟨aA,cN,hm⟩:=hm
    refine Zj H rfl Zmn (Ke (A:=A) (fun w' hw=>hG _ (aN _ hw)) bH (a0:=(⟨a2.b_,a2.at_,a2.bound_⟩ : GWireCursor)) (fun w' hw=>ro2_b _ (aN _ hw)) cN) rfl ?_
    clear H;intro fC fD hv;clear a;intro a H;obtain⟨aC,rfl,cO⟩:=hv
    replace hS:=bI _ _ cO;simp only [List.cons_append,List.nil_append] at hS;clear bH aN cM bI
    refine n_q H (Zc rfl) rfl (W_q (Zk rfl rfl) rfl (W_q (Zk rfl rfl) rfl (W_q (Zb rfl) rfl (W_q (Zb rfl) rfl ?_))));clear H a;intro a H
    refine Ze (Za (wp_seq (wp_region_lit (n_q H (Zc rfl) rfl (W_q (Zc rfl) rfl (W_q (Zp rfl) rfl (W_q (Zd rfl Zc2) rfl ?_)))))));clear H a;intro a H
    replace hS:=hS.pk2
    refine Jz H rfl rfl sz3 (hS.blk 0 rfl) (by simp) rfl ?_
    clear H;intro fE hN cP hz;clear a;intro a H;replace hS:=hS.setBlk hN cP;clear hN hz
    try simp only [List.set_cons_succ,List.set_cons_zero] at hS
    refine Ze (Za (wp_seq (wp_region_lit (n_q H (Zc rfl) rfl (W_q (Zc rfl) rfl ?_)))));clear H a;intro a H
    replace hS:=hS.pk1
    obtain⟨eU,bJ,aO,cQ,bK⟩:=hS.frame (rs1:=[blkR b2 [v2_0,.int .i64 aA.2.2.at_,.int .i64 aA.2.2.bound_] 248])
    replace hm:=Zi hm;obtain⟨aD,cR,hm⟩:=hm
    refine Zj H rfl Zug (Td (A:=A) (fun w' hw=>hG _ (aO _ hw)) bJ (a0:=(⟨a2.b_,aA.2.2.at_,aA.2.2.bound_⟩ : GWireCursor)) (fun w' hw=>ro2_b _ (aO _ hw)) cR) rfl ?_
    clear H;intro aE cI hv;clear a;intro a H;obtain⟨_,rfl,cT⟩:=hv
    replace hS:=bK _ _ cT;simp only [List.cons_append,List.nil_append] at hS;clear bJ aO cQ bK
    refine Qd H Tryz.underlying314 sz39 ze39 rfl rfl rfl (cs:=[aC,aE]) ((Qh (hS.any 3 rfl : IsE A cI aC aA.2.1).one rfl (by simp)).trans ((Qh (hS.any 1 rfl : IsE A cI aE aD.1).one rfl (by simp)).trans rfl)) rfl ?_
    clear H;intro eC aP hN cU hs;clear a;intro a H
    replace hS:=hS.newBlk hN cU hs;clear hN hs
    refine Zj H rfl Zuf (Zcf (A:=A) (SlR.ofBlk (k:=1) (R:=REr A) [[aC],[aE]] [(aC,aA.2.1),(aE,aD.1)] (hS.blk 0 rfl) (DIn.cons rfl (by simp [(hS.any 4 rfl : IsE A aP aC aA.2.1).one]) ⟨rfl,(hS.any 4 rfl : IsE A aP aC aA.2.1)⟩ (DIn.cons rfl (by simp [(hS.any 2 rfl : IsE A aP aE aD.1).one]) ⟨rfl,(hS.any 2 rfl : IsE A aP aE aD.1)⟩ trivial)) rfl (by simp [maxLen])) (Zbs _)) rfl ?_
    clear H;intro fF eD hv;clear a;intro a H;obtain⟨rfl,cV⟩:=hv;replace hS:=hS.ext cV
    replace hS:=hS.pk2
    replace hS:=hS.pk4
    replace hS:=(St.pickE [(aC,aA.2.1),(aE,aD.1)] rfl hS : St fp w eD [erQ A ((pickE [(aC,aA.2.1),(aE,aD.1)]).1) (Zg1 [aA.2.1,aD.1]),blkR eC [aC,aE] 39,blkR b2 [v2_0,.int .i64 aD.2.at_,.int .i64 aD.2.bound_] 248,blkR b0 [.int .i64 a0.Id,.bool a0.Mobile,v0_0,v0_1,v0_2,.int .i64 aA.1,v0_3] 27,ownR 114 2 v0_0 a0.Pages.length (a0.Pages.flatMap Qc),ownR 116 3 v0_1 a0.Procs.length (a0.Procs.flatMap Zx),ownR 118 4 v0_2 a0.Ports.length (a0.Ports.flatMap Zw),ownR 3 1 v0_3 a0.Sems.length (a0.Sems.flatMap eI)])
    refine n_q H (Zb rfl) rfl ?_;clear H a;intro a H
    refine Ze (Za (wp_ret (Zo (Zh ?_))))
    obtain rfl:=Option.some.inj hm
    replace hS:=hS.pk2
    replace hS:=hS.pk7
    replace hS:=hS.pk7
    replace hS:=hS.pk7
    replace hS:=hS.pk7
    replace hS:=hS.pk7
    replace hS:=hS.tk7
    refine Je H (.inr rfl) rfl rfl ?_
    exact⟨_,_,_,_,_,rfl,hS⟩
  replace hm:=Zv hm aM
  refine wp_seq (wp_region_lit (n_q H (Ky rfl rfl) rfl (W_q (Zb rfl) rfl ?_)));clear H a;intro a H
  refine Ze (Za (Zl H rfl (fun aQ=>?_) (fun aQ=>?_)))
  · replace hm:=Zu hm aQ
    refine wp_seq (wp_region_lit (n_q H (Zc rfl) rfl (W_q (Zc rfl) rfl ?_)));clear H a;intro a H
    replace hS:=hS.pk5
    obtain⟨eV,bL,bM,cW,bN⟩:=hS.frame (rs1:=[blkR b2 [v2_0,.int .i64 a2.at_,.int .i64 a2.bound_] 248])
    replace hm:=Zi hm;obtain⟨aR,cX,hm⟩:=hm
    refine Zj H rfl Zk9 (Xs (A:=A) bL (a0:=(⟨a2.b_,a2.at_,a2.bound_⟩ : GWireCursor)) (fun w' hw=>ro2_b _ (bM _ hw)) cX) rfl ?_
    clear H;intro fG fH hv;clear a;intro a H;obtain⟨rfl,cY⟩:=hv
    replace hS:=bN _ _ cY;simp only [List.cons_append,List.nil_append] at hS;clear bL bM cW bN
    obtain⟨eW,bO,aS,cZ,bP⟩:=hS.frame (rs1:=[blkR b2 [v2_0,.int .i64 aR.2.at_,.int .i64 aR.2.bound_] 248])
    replace hm:=Zi hm;obtain⟨aF,dA,hm⟩:=hm
    refine Zj H rfl Zud (Tb (A:=A) (fun w' hw=>hG _ (aS _ hw)) bO (a0:=(⟨a2.b_,aR.2.at_,aR.2.bound_⟩ : GWireCursor)) (fun w' hw=>ro2_b _ (aS _ hw)) dA) rfl ?_
    clear H;intro fI fJ hv;clear a;intro a H;obtain⟨cJ,cK,rfl,dB⟩:=hv
    replace hS:=bP _ _ dB;simp only [List.cons_append,List.nil_append] at hS;clear bO aS cZ bP
    refine n_q H (Zc rfl) rfl (W_q (Zk rfl rfl) rfl (W_q (Zk rfl rfl) rfl (W_q (Zb rfl) rfl (W_q (Zb rfl) rfl ?_))));clear H a;intro a H
    refine Ze (Za (wp_seq (wp_seq (wp_region_lit (n_q H (Zc rfl) rfl ?_)))));clear H a;intro a H
    obtain⟨fK,fL,aI,eX,eY⟩:=SlR.formV ((hS.own 1 rfl).slr rfl (fun _ _=>rfl))
    refine n_q H (Qf Tryz.underlying100 rfl aI) rfl (W_q (Zc rfl) rfl ?_);clear H a;intro a H
    refine Ze (Za (wp_block ?_))
    replace hS:=hS.pk7
    replace hS:=hS.pk7
    replace hS:=hS.pk7
    replace hS:=hS.pk7
    replace hS:=hS.pk7
    replace hS:=hS.pk6
    replace hS:=hS.pk7
    replace hm:=Zi hm;obtain⟨cL,hm,dC⟩:=hm;replace hm:=Qg hm;obtain⟨eE,hm⟩:=hm
    refine Jd (σ:=Nat × Nat × (List Int) × Value) (fun (m,aB,aG,aL)=>[(0,.pointer (some ⟨b0,0,none⟩)),(2,.pointer (some ⟨b2,0,none⟩)),(16,cK),(99,cJ),(100,.int .i64 ((aF.1.length : Nat) : Int)),(101,.int .i64 ((aB : Nat) : Int))]) (fun (m,aB,aG,aL) wl=>Js (Uc aF) m (aB,aG)=some cL ∧ St fp w wl [erQ A cK aF.2.1,ownR 5 1 cJ aF.1.length (aF.1.flatMap eB),blkR b0 [.int .i64 a0.Id,.bool a0.Mobile,v0_0,v0_1,v0_2,.int .i64 a0.Events,aL] 27,ownR 114 2 v0_0 a0.Pages.length (a0.Pages.flatMap Qc),ownR 116 3 v0_1 a0.Procs.length (a0.Procs.flatMap Zx),ownR 118 4 v0_2 a0.Ports.length (a0.Ports.flatMap Zw),ownR 3 1 aL aG.length (aG.flatMap eI),blkR b2 [v2_0,.int .i64 aF.2.2.at_,.int .i64 aF.2.2.bound_] 248]) (fun (m,aB,aG,aL)=>m) (eE,0,a0.Sems,v0_3) H ⟨rfl,rfl,rfl,rfl,rfl,rfl,trivial⟩ ⟨hm,hS⟩ ?_
    clear H hS hm a;intro xx a fM H hR;obtain⟨m,aB,aG,aL⟩:=xx;simp only [ent,List.map_cons,List.map_nil] at H;(try dsimp only at hR);obtain⟨hm,hS⟩:=hR
    replace hm:=Qa hm;obtain⟨eG,fN,rfl,hm,bQ⟩:=hm;try dsimp only [Uc] at hm
    refine wp_seq (wp_region_lit (n_q H (Xz (i:=aB) (j:=aF.1.length) rfl rfl) rfl ?_));clear H a;intro a H
    refine Ze (Za (wp_seq (Zl H rfl (fun aJ=>?_) (fun aJ=>?_))))
    · replace hm:=Zu hm aJ
      have eP : aB < aF.1.length:=of_decide_eq_true aJ
      refine wp_skip (Za (wp_seq (wp_block (wp_seq (wp_region_lit ?_)))))
      replace hm:=Zi hm;obtain⟨bE,aT,hm⟩:=hm
      obtain⟨eQ,aV⟩:=SlR.adV ((hS.own 1 rfl).slr rfl (fun _ _=>rfl)) aI aT
      refine n_q H (Jn (i:=aB) Tryz.underlying100 sz5 rfl aI aV rfl (Ho aT)) rfl (W_q (Zf rfl (SlR.ldOneV ((hS.own 1 rfl).slr rfl (fun _ _=>rfl)) aI aV ag5 aT rfl)) rfl (W_q (Zb rfl) rfl ?_));clear H a;intro a H
      refine Ze (Za (wp_region_lit (n_q H (Zc rfl) rfl (W_q (Zc rfl) rfl (W_q (Zp rfl) rfl (W_q (Zd rfl Gq) rfl (W_q (Zf rfl ((hS.blk 2 rfl).ld Zij rfl)) rfl (W_q (Zc rfl) rfl (W_q (Qo (Xn Tryz.underlying5 Tryz.underlying3 ⟨_,rfl⟩ rfl) (Xa _)) rfl ?_)))))))));clear H a;intro a H
      refine Qd H Tryz.underlying25 sz3 ze3 rfl rfl rfl (cs:=[.int .i64 (bE.toNat : Int)]) (by kernel_rfl) rfl ?_
      clear H;intro fO fP hN dD hs;clear a;intro a H
      replace hS:=hS.newBlk hN dD hs;clear hN hs
      replace hS:=hS.blkOwnL (e:=eI) (k:=1) [(bE.toNat : Int)] rfl rfl (by simp [maxLen])
      replace hS:=hS.pk7
      replace hm:=Tj hm;obtain⟨dE,hm⟩:=hm
      refine Zb1 (e:=eI) H rfl rfl Tryz.underlying25 Tryz.underlying25 (by simp) el3 (hS.own 0 rfl) (((hS.own 1 rfl).slr rfl (fun _ _=>rfl)).src (fun _ _=>rfl)) Zkt dE (by simp only [maxLen];omega) rfl ?_
      clear H;intro eH fQ hN dF hb;clear a;intro a H;replace hS:=hS.setOwn hN dF hb;clear hN hb
      refine n_q H (Zp rfl) rfl (W_q (Zd rfl Gq) rfl ?_);clear H a;intro a H
      replace hS:=hS.pk4
      refine Jz H rfl rfl sz25 (hS.blk 0 rfl) (by simp) (((hS.own 1 rfl).slr rfl (fun _ _=>rfl))).one ?_
      clear H;intro fR hN dG hz;clear a;intro a H;replace hS:=hS.setBlk hN dG;clear hN hz
      try simp only [List.set_cons_succ,List.set_cons_zero] at hS
      refine Ze (Zm (Za (wp_region_lit (n_q H (Kb (i:=aB) (j:=1) rfl rfl (by omega)) rfl (W_q (Zc rfl) rfl ?_)))));clear H a;intro a H
      refine Ze (Za ?_)
      obtain rfl:=Option.some.inj hm
      replace hS:=hS.pk8
      replace hS:=hS.pk2
      replace hS:=hS.pk8
      replace hS:=hS.pk8
      replace hS:=hS.pk8
      replace hS:=hS.pk5
      replace hS:=hS.pk8
      replace hS:=hS.pk8
      replace hS:=hS.tk8
      exact Vh (eG,aB + 1,(aG ++ [(bE.toNat : Int)]),eH) H ⟨rfl,rfl,rfl,rfl,rfl,rfl,trivial⟩ ⟨bQ,hS⟩ (Nat.lt_succ_self _)
    replace hm:=Zv hm aJ
    refine wp_exit (Zn (Zn (Zy ?_)))
    obtain rfl:=Option.some.inj hm;have hz : _=cL:=bQ;subst hz;replace hm:=dC;try dsimp only at hm
    refine Za (wp_seq (wp_region_lit (n_q H (Zc rfl) rfl (W_q (Zb rfl) rfl ?_))));clear H a;intro a H
    refine Ze (Za (wp_ret (Zo (Zh ?_))))
    obtain rfl:=Option.some.inj hm
    replace hS:=hS.pk7
    replace hS:=hS.pk7
    replace hS:=hS.pk7
    replace hS:=hS.pk7
    replace hS:=hS.pk7
    replace hS:=hS.pk7
    replace hS:=hS.tk7
    refine Je H (.inr rfl) rfl rfl ?_
    exact⟨_,_,_,_,_,rfl,hS⟩
  replace hm:=Zv hm aQ
  refine wp_skip (Zm (Za (wp_seq (wp_region_lit (n_q H (Zf rfl ((hG _ hS.chg).ld Zoj (by decide) Hv)) rfl (W_q (Zb rfl) rfl ?_))))));clear H a;intro a H
  refine Ze (Za (wp_ret ?_))
  obtain rfl:=Option.some.inj hm
  replace hS:=hS.dVar (A:=A) (g:=Zoj) (by decide)
  replace hS:=hS.pk6
  replace hS:=hS.pk6
  replace hS:=hS.pk6
  replace hS:=hS.pk6
  replace hS:=hS.pk6
  replace hS:=hS.pk6
  refine Je H (.inr rfl) rfl rfl ?_
  exact⟨_,_,_,_,_,rfl,hS⟩
theorem Zd0 {w : World} {A : Nat → Addr} {v0 : Value} {a0 : List UInt8} {v1 : Value} {a1 : List UInt8} (h0 : SlR w 1 (Zq eB) v0 a0) (h1 : SlR w 1 (Zq eB) v1 a1) {r : Bool} (hm : Jq a0 a1=some r) :
    Calls Tryz.prog 107 [v0,v1].toArray w (Ret fun u w'=>u=.bool r ∧ Ext w w'):=by
  have hS:=St.begin NB w
  unfold Jq at hm
  refine enter Tryz.func107 rfl rfl rfl ?_;intro a H;dsimp only [Qk,Nat.zero_add,Nat.reduceAdd] at H
  refine wp_seq (wp_region_lit (n_q H (Zb rfl) rfl ?_));clear H a;intro a H
  refine Ze (Za (wp_seq (wp_seq (wp_region_lit (n_q H (Zc rfl) rfl ?_)))));clear H a;intro a H
  obtain⟨aX,aY,aB,aT,aU⟩:=SlR.formV (h0.ext (Zq.mono _) hS.x)
  refine n_q H (Qf Tryz.underlying100 rfl aB) rfl (W_q (Zc rfl) rfl ?_);clear H a;intro a H
  obtain⟨aZ,a9,aC,aV,aW⟩:=SlR.formV (h1.ext (Zq.mono _) hS.x)
  refine n_q H (Qf Tryz.underlying100 rfl aC) rfl (W_q (Zfi (i:=a0.length) (j:=a1.length) rfl rfl) rfl ?_);clear H a;intro a H
  refine Ze (Za (Zl H rfl (fun aE=>?_) (fun aE=>?_)))
  · replace hm:=Zu hm aE
    refine wp_seq (wp_region_lit (n_q H (Zb rfl) rfl ?_));clear H a;intro a H
    refine Ze (Za (wp_ret (Zh ?_)))
    obtain rfl:=Option.some.inj hm
    refine Je H (.inr rfl) rfl rfl ?_
    exact⟨rfl,hS.x⟩
  replace hm:=Zv hm aE
  refine wp_skip (Za (wp_seq (wp_seq (wp_region_lit (n_q H (Zc rfl) rfl (W_q (Qf Tryz.underlying100 rfl aB) rfl (W_q (Zc rfl) rfl ?_)))))));clear H a;intro a H
  refine Ze (Za (wp_block ?_))
  replace hm:=Zi hm;obtain⟨aL,hm,aM⟩:=hm;replace hm:=Qg hm;obtain⟨aO,hm⟩:=hm
  refine Jd (σ:=Nat × Nat) (fun (m,aA)=>[(0,v0),(1,v1),(12,.int .i64 ((a0.length : Nat) : Int)),(13,.int .i64 ((aA : Nat) : Int))]) (fun (m,aA) wl=>Js (Jm a0 a1) m aA=some aL ∧ St NB w wl []) (fun (m,aA)=>m) (aO,0) H ⟨rfl,rfl,rfl,rfl,trivial⟩ ⟨hm,hS⟩ ?_
  clear H hS hm a;intro xx a bA H hR;obtain⟨m,aA⟩:=xx;simp only [ent,List.map_cons,List.map_nil] at H;(try dsimp only at hR);obtain⟨hm,hS⟩:=hR
  replace hm:=Qa hm;obtain⟨aP,bB,rfl,hm,aF⟩:=hm;try dsimp only [Jm] at hm
  refine wp_seq (wp_region_lit (n_q H (Xz (i:=aA) (j:=a0.length) rfl rfl) rfl ?_));clear H a;intro a H
  refine Ze (Za (wp_seq (Zl H rfl (fun aD=>?_) (fun aD=>?_))))
  · replace hm:=Zu hm aD
    have aQ : aA < a0.length:=of_decide_eq_true aD
    refine wp_skip (Za (wp_seq (wp_block (wp_seq (wp_region_lit (n_q H (Zc rfl) rfl (W_q (Zb rfl) rfl ?_)))))));clear H a;intro a H
    refine Ze (Za (wp_seq (Ww (by kernel_rfl) (by kernel_rfl) ?_)))
    refine Xb H (Zc rfl) rfl ?_;clear H a;intro a H
    refine Xb H (Zc rfl) rfl ?_;clear H a;intro a H
    replace hm:=Zi hm;obtain⟨bC,aG,hm⟩:=hm
    obtain⟨aR,aJ⟩:=SlR.adV (h0.ext (Zq.mono _) hS.x) aB aG
    refine Xb H (Jn (i:=aA) Tryz.underlying100 sz5 rfl aB aJ rfl (Ho aG)) rfl ?_;clear H a;intro a H
    refine Xb H (Zf rfl (SlR.ldOneV (h0.ext (Zq.mono _) hS.x) aB aJ ag5 aG rfl)) rfl ?_;clear H a;intro a H
    refine Xb H (Zc rfl) rfl ?_;clear H a;intro a H
    refine Xb H (Zc rfl) rfl ?_;clear H a;intro a H
    replace hm:=Zi hm;obtain⟨bD,aH,hm⟩:=hm
    obtain⟨aS,aK⟩:=SlR.adV (h1.ext (Zq.mono _) hS.x) aC aH
    refine Xb H (Jn (i:=aA) Tryz.underlying100 sz5 rfl aC aK rfl (Ho aH)) rfl ?_;clear H a;intro a H
    refine Xb H (Zf rfl (SlR.ldOneV (h1.ext (Zq.mono _) hS.x) aC aK ag5 aH rfl)) rfl ?_;clear H a;intro a H
    refine Xb H (Vo rfl rfl) rfl ?_;clear H a;intro a H
    refine To ?_;intro bE aN
    replace hS:=hS.ext aN
    refine Za (Zl H rfl (fun aI=>?_) (fun aI=>?_))
    · replace hm:=Zu hm aI
      refine wp_seq (wp_region_lit (n_q H (Zb rfl) rfl ?_));clear H a;intro a H
      refine Ze (Za (wp_ret (Zo (Zh (Zh (Zo (Zh ?_)))))))
      obtain rfl:=Option.some.inj hm;have hz : _=aL:=aF;subst hz;replace hm:=aM;try dsimp only at hm
      obtain rfl:=Option.some.inj hm
      refine Je H (.inr rfl) rfl rfl ?_
      exact⟨rfl,hS.x⟩
    replace hm:=Zv hm aI
    refine wp_skip (Zm (Za (wp_region_lit (n_q H (Kb (i:=aA) (j:=1) rfl rfl (by omega)) rfl (W_q (Zc rfl) rfl ?_)))));clear H a;intro a H
    refine Ze (Za ?_)
    obtain rfl:=Option.some.inj hm
    exact Vh (aP,aA + 1) H ⟨rfl,rfl,rfl,rfl,trivial⟩ ⟨aF,hS⟩ (Nat.lt_succ_self _)
  replace hm:=Zv hm aD
  refine wp_exit (Zn (Zn (Zy ?_)))
  obtain rfl:=Option.some.inj hm;have hz : _=aL:=aF;subst hz;replace hm:=aM;try dsimp only at hm
  refine Za (wp_seq (wp_region_lit (n_q H (Zb rfl) rfl ?_)));clear H a;intro a H
  refine Ze (Za (wp_ret ?_))
  obtain rfl:=Option.some.inj hm
  refine Je H (.inr rfl) rfl rfl ?_
  exact⟨rfl,hS.x⟩
set_option maxHeartbeats 1000000 in
theorem Zj1 {w : World} {A : Nat → Addr} {v0 : Value} {a0 : List UInt8} (hG : EV A w) (h0 : SlR w 1 (Zq eB) v0 a0) {r : GPlan × ErrM} (hm : Jh a0=some r) :
    Calls Tryz.prog 49 [v0].toArray w (Ret fun u w'=>∃ h_0 h_1 h_2 h_3 h_4,u=.tuple #[.agg #[.int .i64 r.1.Id,.bool r.1.Mobile,h_0,h_1,h_2,.int .i64 r.1.Events,h_3],h_4] ∧ St NB w w' [ownR 114 2 h_0 r.1.Pages.length (r.1.Pages.flatMap Qc),ownR 116 3 h_1 r.1.Procs.length (r.1.Procs.flatMap Zx),ownR 118 4 h_2 r.1.Ports.length (r.1.Ports.flatMap Zw),ownR 3 1 h_3 r.1.Sems.length (r.1.Sems.flatMap eI),erQ A h_4 r.2]):=by
  have hS:=St.begin NB w
  unfold Jh at hm
  refine enter Tryz.func49 rfl rfl rfl ?_;intro a H;dsimp only [Qk,Nat.zero_add,Nat.reduceAdd] at H
  refine wp_seq (wp_region_lit (Qr H Zg9 rfl ?_))
  clear H;intro bE hZ hN e8 hs;clear a;intro a H
  replace hS:=hS.newBlk hN e8 hs;clear hN hs
  refine n_q H (Zb rfl) rfl ?_;clear H a;intro a H
  refine Ze (Za (wp_seq (wp_region_lit (n_q H (Zc rfl) rfl ?_))));clear H a;intro a H
  replace hm:=Zi hm;obtain⟨bF,e9,hm⟩:=hm
  refine Zj H rfl en99 (Zla (A:=A) (hG.ext hS.x) (h0.ext (Zq.mono _) hS.x) e9) rfl ?_
  clear H;intro iA aZ hv;clear a;intro a H;obtain⟨iB,dB,rfl,fA⟩:=hv
  replace hS:=hS.new fA;simp only [List.cons_append,List.nil_append] at hS
  refine n_q H (Zc rfl) rfl (W_q (Zk rfl rfl) rfl (W_q (Zk rfl rfl) rfl (W_q (Zb rfl) rfl (W_q (Zb rfl) rfl ?_))));clear H a;intro a H
  refine Ze (Za (wp_seq (wp_seq (wp_region_lit (n_q H (Zc rfl) rfl (W_q (Qo (Va Tryz.underlying39 rfl rfl (hS.any 1 rfl : IsE A aZ dB bF.2).form) (show _=Value.bool (!decide (bF.2=.nil)) by rw [Xw.isNil (hS.any 1 rfl : IsE A aZ dB bF.2)])) rfl ?_))))));clear H a;intro a H
  refine Ze (Za (Zl H rfl (fun bS=>?_) (fun bS=>?_)))
  · replace hm:=Zu hm bS
    refine wp_seq (wp_region_lit (n_q H (Zz (cs:=[.int .i64 0,.bool false,.slice none 0 0,.slice none 0 0,.slice none 0 0,.int .i64 0,.slice none 0 0]) Zg9 Zno Znp rfl (by kernel_rfl)) rfl (W_q (Zc rfl) rfl ?_)));clear H a;intro a H
    replace hS:=hS.pk2
    refine Zr H rfl rfl (vs:=[.int .i64 0,.bool false,.slice none 0 0,.slice none 0 0,.slice none 0 0,.int .i64 0,.slice none 0 0]) rfl Ut (hS.blk 0 rfl) rfl (by simp) ?_
    clear H;intro iC hN fB hz;clear a;intro a H;replace hS:=hS.setBlk hN fB;clear hN hz
    refine n_q H (Zb rfl) rfl ?_;clear H a;intro a H
    refine Ze (Za (wp_ret (Zh ?_)))
    obtain rfl:=Option.some.inj hm
    replace hS:=hS.nilOwn 114 2
    replace hS:=hS.nilOwn 116 3
    replace hS:=hS.nilOwn 118 4
    replace hS:=hS.nilOwn 3 1
    replace hS:=hS.pk4
    replace hS:=hS.pk6
    replace hS:=hS.pk2
    replace hS:=hS.pk3
    replace hS:=hS.pk4
    replace hS:=hS.pk5
    replace hS:=hS.tk6
    refine Ti H (.inr rfl) rfl (vs:=[.agg #[.int .i64 0,.bool false,.slice none 0 0,.slice none 0 0,.slice none 0 0,.int .i64 0,.slice none 0 0],dB]) (Qm rfl ((hS.blk 5 rfl).ldAll Zap Ut) (Xh rfl Qv)) ?_
    replace hS:=hS.tk5
    exact⟨_,_,_,_,_,rfl,hS⟩
  replace hm:=Zv hm bS
  refine wp_skip (Za (wp_seq (wp_seq (wp_region_lit (n_q H (Zc rfl) rfl ?_)))));clear H a;intro a H
  obtain⟨fY,fZ,bT,gK,gL⟩:=SlR.formV ((hS.own 0 rfl).slr rfl (fun _ _=>rfl))
  refine n_q H (Qf Tryz.underlying100 rfl bT) rfl (W_q (Xz (i:=bF.1.length) (j:=15) rfl rfl) rfl ?_);clear H a;intro a H
  refine Ze (Za (Zl H rfl (fun bG=>?_) (fun bG=>?_)))
  · replace hm:=Zu hm bG
    have gA : bF.1.length < 15:=of_decide_eq_true bG
    refine wp_seq (Gi (kB w.heap.size [] aZ.drew.heap.size) 4 (by kernel_rfl) ?_)
    obtain⟨eX,bU⟩ : ∃ x,x=aZ.drew:=⟨_,rfl⟩;rw [← bU];have fC : Ext aZ eX:=by rw [bU];exact Ext.drew' _
    clear bU
    replace hS:=hS.ext fC
    have fD:=hS.x.size
    have hW:=Nat.le_refl eX.heap.size
    refine Zg 0 H rfl (Zz (cs:=[.int .i64 0,.bool false,.slice none 0 0,.slice none 0 0,.slice none 0 0,.int .i64 0,.slice none 0 0]) Zg9 Zno Znp rfl (by kernel_rfl)) rfl (by kernel_rfl) (by kernel_rfl) (by kernel_rfl) (by kernel_rfl) (fun _ _ _ h=>h) ?_;clear H a;intro a H
    refine Xo 1 H rfl (Zf rfl (LdC.old (hG.ld Vb (by decide) Hv) hS.x fD Zi4)) rfl (by kernel_rfl) (by kernel_rfl) (by kernel_rfl) (by kernel_rfl) (fun _ _ _ h=>h) ?_;clear H a;intro a H
    replace hS:=hS.pk2
    refine Qj 2 H rfl rfl rfl (vs:=[.int .i64 0,.bool false,.slice none 0 0,.slice none 0 0,.slice none 0 0,.int .i64 0,.slice none 0 0]) rfl Ut (hS.blk 0 rfl) rfl (by simp) (by kernel_rfl) (.inl (fun h=>Zi3 h (hS.ge (i:=0) rfl) Zcp)) ?_
    clear H;intro iD hN dC hz;clear a;intro a H;replace hS:=hS.setBlk hN dC;clear hN hz;replace hW:=Nat.le_trans hW dC.size
    refine Zg 3 H rfl (Zb rfl) rfl (by kernel_rfl) (by kernel_rfl) (by kernel_rfl) (by kernel_rfl) (fun _ _ _ h=>h) ?_;clear H a;intro a H
    refine Qx (by kernel_rfl) ?_
    refine Za (wp_ret (Zh ?_))
    obtain rfl:=Option.some.inj hm
    replace hS:=hS.nilOwn 114 2
    replace hS:=hS.nilOwn 116 3
    replace hS:=hS.nilOwn 118 4
    replace hS:=hS.nilOwn 3 1
    replace hS:=hS.dVar (A:=A) (g:=Vb) (by decide)
    replace hS:=hS.pk5
    replace hS:=hS.pk1
    replace hS:=hS.pk2
    replace hS:=hS.pk3
    replace hS:=hS.pk4
    replace hS:=hS.pk5
    replace hS:=hS.tk6
    refine Ti H (.inr rfl) rfl (vs:=[.agg #[.int .i64 0,.bool false,.slice none 0 0,.slice none 0 0,.slice none 0 0,.int .i64 0,.slice none 0 0],sv 340 A Vb]) (Qm rfl ((hS.blk 5 rfl).ldAll Zap Ut) (Xh rfl Qv)) ?_
    replace hS:=hS.tk5
    exact⟨_,_,_,_,_,rfl,hS⟩
  replace hm:=Zv hm bG
  refine wp_skip (Za (wp_seq (wp_seq (wp_region_lit (n_q H (Zc rfl) rfl ?_)))));clear H a;intro a H
  replace hm:=Tj hm;obtain⟨bV,hm⟩:=hm
  refine n_q H (Zak Tryz.underlying100 sz5 (show _=some (Value.slice fY bF.1.length fZ) by rw [← bT];rfl) rfl bV.1 (by omega)) rfl (W_q (Zhj Tryz.underlying100 Tryz.underlying5 Tryz.underlying9 rfl (fun w' hw=>((SlR.takeV ((hS.own 0 rfl).slr rfl (fun _ _=>rfl)) bT bV.1 bV.2).ext (Zq.mono _) hw))) rfl (W_q (Zkq rfl rfl) rfl ?_));clear H a;intro a H
  refine Ze (Za (Zl H rfl (fun bW=>?_) (fun bW=>?_)))
  · replace hm:=Zu hm bW
    refine wp_seq (Gi (kB w.heap.size [] aZ.drew.heap.size) 4 (by kernel_rfl) ?_)
    obtain⟨eY,bX⟩ : ∃ x,x=aZ.drew:=⟨_,rfl⟩;rw [← bX];have fE : Ext aZ eY:=by rw [bX];exact Ext.drew' _
    clear bX
    replace hS:=hS.ext fE
    have fF:=hS.x.size
    have hW:=Nat.le_refl eY.heap.size
    refine Zg 0 H rfl (Zz (cs:=[.int .i64 0,.bool false,.slice none 0 0,.slice none 0 0,.slice none 0 0,.int .i64 0,.slice none 0 0]) Zg9 Zno Znp rfl (by kernel_rfl)) rfl (by kernel_rfl) (by kernel_rfl) (by kernel_rfl) (by kernel_rfl) (fun _ _ _ h=>h) ?_;clear H a;intro a H
    refine Xo 1 H rfl (Zf rfl (LdC.old (hG.ld Zin (by decide) Hv) hS.x fF Zi4)) rfl (by kernel_rfl) (by kernel_rfl) (by kernel_rfl) (by kernel_rfl) (fun _ _ _ h=>h) ?_;clear H a;intro a H
    replace hS:=hS.pk2
    refine Qj 2 H rfl rfl rfl (vs:=[.int .i64 0,.bool false,.slice none 0 0,.slice none 0 0,.slice none 0 0,.int .i64 0,.slice none 0 0]) rfl Ut (hS.blk 0 rfl) rfl (by simp) (by kernel_rfl) (.inl (fun h=>Zi3 h (hS.ge (i:=0) rfl) Zcp)) ?_
    clear H;intro iE hN dD hz;clear a;intro a H;replace hS:=hS.setBlk hN dD;clear hN hz;replace hW:=Nat.le_trans hW dD.size
    refine Zg 3 H rfl (Zb rfl) rfl (by kernel_rfl) (by kernel_rfl) (by kernel_rfl) (by kernel_rfl) (fun _ _ _ h=>h) ?_;clear H a;intro a H
    refine Qx (by kernel_rfl) ?_
    refine Za (wp_ret (Zh ?_))
    obtain rfl:=Option.some.inj hm
    replace hS:=hS.nilOwn 114 2
    replace hS:=hS.nilOwn 116 3
    replace hS:=hS.nilOwn 118 4
    replace hS:=hS.nilOwn 3 1
    replace hS:=hS.dVar (A:=A) (g:=Zin) (by decide)
    replace hS:=hS.pk5
    replace hS:=hS.pk1
    replace hS:=hS.pk2
    replace hS:=hS.pk3
    replace hS:=hS.pk4
    replace hS:=hS.pk5
    replace hS:=hS.tk6
    refine Ti H (.inr rfl) rfl (vs:=[.agg #[.int .i64 0,.bool false,.slice none 0 0,.slice none 0 0,.slice none 0 0,.int .i64 0,.slice none 0 0],sv 340 A Zin]) (Qm rfl ((hS.blk 5 rfl).ldAll Zap Ut) (Xh rfl Qv)) ?_
    replace hS:=hS.tk5
    exact⟨_,_,_,_,_,rfl,hS⟩
  replace hm:=Zv hm bW
  refine wp_skip (Za (wp_seq (wp_region_lit (n_q H (Zc rfl) rfl ?_))));clear H a;intro a H
  replace hm:=Zi hm;obtain⟨aM,fG,hm⟩:=hm
  refine Zj H rfl en100 (Zjy (A:=A) ((hS.own 0 rfl).slr rfl (fun _ _=>rfl)) fG) rfl ?_
  clear H;intro iF iG hv;clear a;intro a H;obtain⟨aP,aQ,rfl,fH⟩:=hv
  replace hS:=hS.new fH;simp only [List.cons_append,List.nil_append] at hS
  refine n_q H (Zb rfl) rfl ?_;clear H a;intro a H
  refine Ze (Za (wp_seq (wp_region_lit (n_q H (Zc rfl) rfl ?_))));clear H a;intro a H
  obtain⟨gM,dE,dF,dG,dH⟩:=hS.frame (rs1:=[blkR aP [aQ,.int .i64 aM.at_,.int .i64 aM.bound_] 248])
  replace hm:=Zi hm;obtain⟨b9,fI,hm⟩:=hm
  refine Zj H rfl Zud (Tb (A:=A) (fun w' hw=>hG.ext (dF _ hw).ext) dE (a0:=(⟨aM.b_,aM.at_,aM.bound_⟩ : GWireCursor)) (fun w' hw=>(Kn (dG 0 _ rfl _ hw)).slr rfl (fun _ _=>rfl)) fI) rfl ?_
  clear H;intro iH iI hv;clear a;intro a H;obtain⟨iJ,iK,rfl,fJ⟩:=hv
  replace hS:=dH _ _ fJ;simp only [List.cons_append,List.nil_append] at hS;clear dE dF dG dH
  refine Ze (Za (wp_seq (wp_seq (wp_region_lit (n_q H (Zc rfl) rfl ?_)))));clear H a;intro a H
  obtain⟨gN,dI,dJ,dK,dL⟩:=hS.frame (rs1:=[blkR aP [aQ,.int .i64 b9.2.2.at_,.int .i64 b9.2.2.bound_] 248])
  replace hm:=Zi hm;obtain⟨cA,fK,hm⟩:=hm
  refine Zj H rfl Zue (Tc (A:=A) (fun w' hw=>hG.ext (dJ _ hw).ext) dI (a0:=(⟨aM.b_,b9.2.2.at_,b9.2.2.bound_⟩ : GWireCursor)) (fun w' hw=>(Kn (dK 2 _ rfl _ hw)).slr rfl (fun _ _=>rfl)) fK) rfl ?_
  clear H;intro iL dM hv;clear a;intro a H;obtain⟨iM,rfl,fL⟩:=hv
  replace hS:=dL _ _ fL;simp only [List.cons_append,List.nil_append] at hS;clear dI dJ dK dL
  refine n_q H (Zc rfl) rfl (W_q (Zk rfl rfl) rfl (W_q (Zk rfl rfl) rfl (W_q (Zb rfl) rfl (W_q (Zb rfl) rfl ?_))));clear H a;intro a H
  refine Ze (Za (wp_seq (wp_region_lit (n_q H (Zc rfl) rfl (W_q (Zc rfl) rfl ?_)))));clear H a;intro a H
  obtain⟨iN,iO,fM,gO,gP⟩:=SlR.formV (h0.ext (Zq.mono _) hS.x)
  refine n_q H (Qf Tryz.underlying100 rfl fM) rfl (W_q (Vo rfl rfl) rfl ?_);clear H a;intro a H
  refine Ze (Za (Zl H rfl (fun bY=>?_) (fun bY=>?_)))
  · replace hm:=Zu hm bY
    refine wp_seq (Gi (kB w.heap.size (aP :: []) dM.drew.heap.size) 4 (by kernel_rfl) ?_)
    obtain⟨eZ,bZ⟩ : ∃ x,x=dM.drew:=⟨_,rfl⟩;rw [← bZ];have fN : Ext dM eZ:=by rw [bZ];exact Ext.drew' _
    clear bZ
    replace hS:=hS.ext fN
    have dN:=(hS.blk 0 rfl).lt
    have fO:=hS.x.size
    have hW:=Nat.le_refl eZ.heap.size
    refine Zg 0 H rfl (Zz (cs:=[.int .i64 0,.bool false,.slice none 0 0,.slice none 0 0,.slice none 0 0,.int .i64 0,.slice none 0 0]) Zg9 Zno Znp rfl (by kernel_rfl)) rfl (by kernel_rfl) (by kernel_rfl) (by kernel_rfl) (by kernel_rfl) (fun _ _ _ h=>h) ?_;clear H a;intro a H
    refine Xo 1 H rfl (Zf rfl (LdC.old (hG.ld Vv (by decide) Hv) hS.x fO Zi4)) rfl (by kernel_rfl) (by kernel_rfl) (by kernel_rfl) (by kernel_rfl) (fun _ _ _ h=>h) ?_;clear H a;intro a H
    replace hS:=hS.pk7
    refine Qj 2 H rfl rfl rfl (vs:=[.int .i64 0,.bool false,.slice none 0 0,.slice none 0 0,.slice none 0 0,.int .i64 0,.slice none 0 0]) rfl Ut (hS.blk 0 rfl) rfl (by simp) (by kernel_rfl) (.inl (fun h=>Zi3 h (hS.ge (i:=0) rfl) (Zcq (hS.ne (i:=0) (j:=1) (by decide) rfl rfl) Zcp))) ?_
    clear H;intro iP hN dO hz;clear a;intro a H;replace hS:=hS.setBlk hN dO;clear hN hz;replace hW:=Nat.le_trans hW dO.size
    refine Zg 3 H rfl (Zb rfl) rfl (by kernel_rfl) (by kernel_rfl) (by kernel_rfl) (by kernel_rfl) (fun _ _ _ h=>h) ?_;clear H a;intro a H
    refine Qx (by kernel_rfl) ?_
    refine Za (wp_ret (Zh ?_))
    obtain rfl:=Option.some.inj hm
    replace hS:=hS.nilOwn 114 2
    replace hS:=hS.nilOwn 116 3
    replace hS:=hS.nilOwn 118 4
    replace hS:=hS.nilOwn 3 1
    replace hS:=hS.dVar (A:=A) (g:=Vv) (by decide)
    replace hS:=hS.pk5
    replace hS:=hS.pk1
    replace hS:=hS.pk2
    replace hS:=hS.pk3
    replace hS:=hS.pk4
    replace hS:=hS.pk5
    replace hS:=hS.tk6
    refine Ti H (.inr rfl) rfl (vs:=[.agg #[.int .i64 0,.bool false,.slice none 0 0,.slice none 0 0,.slice none 0 0,.int .i64 0,.slice none 0 0],sv 340 A Vv]) (Qm rfl ((hS.blk 5 rfl).ldAll Zap Ut) (Xh rfl Qv)) ?_
    replace hS:=hS.tk5
    exact⟨_,_,_,_,_,rfl,hS⟩
  replace hm:=Zv hm bY
  refine wp_skip (Za (wp_seq (wp_region_lit (Qr H Zg9 rfl ?_))))
  clear H;intro aO gQ hN d7 hs;clear a;intro a H
  replace hS:=hS.newBlk hN d7 hs;clear hN hs
  refine Ze (Za (wp_seq (wp_region_lit (n_q H (Zc rfl) rfl ?_))));clear H a;intro a H
  replace hS:=hS.pk1
  obtain⟨gB,cB,cC,cD,cF⟩:=hS.frame (rs1:=[blkR aP [aQ,.int .i64 cA.2.2.at_,.int .i64 cA.2.2.bound_] 248])
  replace hm:=Zi hm;obtain⟨bA,d8,hm⟩:=hm
  refine Zj H rfl Zue (Tc (A:=A) (fun w' hw=>hG.ext (cC _ hw).ext) cB (a0:=(⟨aM.b_,cA.2.2.at_,cA.2.2.bound_⟩ : GWireCursor)) (fun w' hw=>(Kn (cD 4 _ rfl _ hw)).slr rfl (fun _ _=>rfl)) d8) rfl ?_
  clear H;intro gR gS hv;clear a;intro a H;obtain⟨gT,rfl,d9⟩:=hv
  replace hS:=cF _ _ d9;simp only [List.cons_append,List.nil_append] at hS;clear cB cC cD cF
  refine n_q H (Zc rfl) rfl (W_q (Zk rfl rfl) rfl (W_q (Zk rfl rfl) rfl (W_q (Zd rfl Zeh) rfl ?_)));clear H a;intro a H
  replace hS:=hS.pk2
  refine Jz H rfl rfl sz3 (hS.blk 0 rfl) (by simp) rfl ?_
  clear H;intro gU hN eA hz;clear a;intro a H;replace hS:=hS.setBlk hN eA;clear hN hz
  try simp only [List.set_cons_succ,List.set_cons_zero] at hS
  refine Ze (Za (wp_seq (wp_region_lit (n_q H (Zc rfl) rfl ?_))));clear H a;intro a H
  replace hS:=hS.pk1
  obtain⟨gC,cG,cH,cI,cJ⟩:=hS.frame (rs1:=[blkR aP [aQ,.int .i64 bA.2.2.at_,.int .i64 bA.2.2.bound_] 248])
  replace hm:=Zi hm;obtain⟨bH,eC,hm⟩:=hm
  refine Zj H rfl en103 (Zax (A:=A) (fun w' hw=>hG.ext (cH _ hw).ext) cG (a0:=(⟨aM.b_,bA.2.2.at_,bA.2.2.bound_⟩ : GWireCursor)) (fun w' hw=>(Kn (cI 5 _ rfl _ hw)).slr rfl (fun _ _=>rfl)) eC) rfl ?_
  clear H;intro gV gW hv;clear a;intro a H;obtain⟨fP,rfl,eD⟩:=hv
  replace hS:=cJ _ _ eD;simp only [List.cons_append,List.nil_append] at hS;clear cG cH cI cJ
  refine n_q H (Zc rfl) rfl (W_q (Zk rfl rfl) rfl (W_q (Zk rfl rfl) rfl (W_q (Zd rfl Zk4) rfl ?_)));clear H a;intro a H
  replace hS:=hS.pk2
  refine Jz H rfl rfl sz4 (hS.blk 0 rfl) (by simp) rfl ?_
  clear H;intro gX hN eE hz;clear a;intro a H;replace hS:=hS.setBlk hN eE;clear hN hz
  try simp only [List.set_cons_succ,List.set_cons_zero] at hS
  refine n_q H (Zb rfl) rfl ?_;clear H a;intro a H
  refine Ze (Za (wp_seq (wp_block ?_)))
  replace hS:=hS.nilOwn 114 2
  replace hS:=hS.nilOwn 116 3
  replace hS:=hS.nilOwn 118 4
  replace hS:=hS.nilOwn 3 1
  replace hS:=hS.pk1
  replace hS:=hS.pk2
  replace hS:=hS.pk3
  replace hS:=hS.pk4
  replace hS:=hS.pick 11 rfl;dsimp only [List.eraseIdx] at hS
  replace hS:=hS.pk6
  replace hS:=hS.pick 14 rfl;dsimp only [List.eraseIdx] at hS
  replace hS:=hS.pk8
  replace hS:=hS.tk9
  replace hm:=Zi hm;obtain⟨dP,hm,eG⟩:=hm;replace hm:=Qg hm;obtain⟨fQ,hm⟩:=hm
  refine Jd (σ:=Nat × ErrM × Int × Int × Int × Bool × (List GPagePlan) × (List GProcPlan) × (List GPortPlan) × Int × (List Int) × Value × Value × Value × Value × Value) (fun (m,aL,aR,aS,aE,aF,aA,aB,aC,aG,aD,aN,aH,aI,aJ,aK)=>[(0,v0),(2,.pointer (some ⟨bE,0,none⟩)),(5,aN),(6,.pointer (some ⟨aP,0,none⟩)),(9,.pointer (some ⟨aO,0,none⟩))]) (fun (m,aL,aR,aS,aE,aF,aA,aB,aC,aG,aD,aN,aH,aI,aJ,aK) wl=>Js (Qt aM) m (aL,aR,aS,aE,aF,aA,aB,aC,aG,aD)=some dP ∧ St NB w wl [erQ A aN aL,blkR bE [.int .i64 0,.bool false,.slice none 0 0,.slice none 0 0,.slice none 0 0,.int .i64 0,.slice none 0 0] 27,blkR aP [aQ,.int .i64 aR,.int .i64 aS] 248,ownR 5 1 aQ aM.b_.length (aM.b_.flatMap eB),blkR aO [.int .i64 aE,.bool aF,aH,aI,aJ,.int .i64 aG,aK] 27,ownR 114 2 aH aA.length (aA.flatMap Qc),ownR 116 3 aI aB.length (aB.flatMap Zx),ownR 118 4 aJ aC.length (aC.flatMap Zw),ownR 3 1 aK aD.length (aD.flatMap eI)]) (fun (m,aL,aR,aS,aE,aF,aA,aB,aC,aG,aD,aN,aH,aI,aJ,aK)=>m) (fQ,bH.2.1,bH.2.2.at_,bH.2.2.bound_,bA.1,bH.1,([] : List GPagePlan),([] : List GProcPlan),([] : List GPortPlan),0,([] : List Int),fP,.slice none 0 0,.slice none 0 0,.slice none 0 0,.slice none 0 0) H ⟨rfl,rfl,rfl,rfl,rfl,trivial⟩ ⟨hm,hS⟩ ?_
  clear H hS hm a;intro xx a dQ H hR;obtain⟨m,aL,aR,aS,aE,aF,aA,aB,aC,aG,aD,aN,aH,aI,aJ,aK⟩:=xx;simp only [ent,List.map_cons,List.map_nil] at H;(try dsimp only at hR);obtain⟨hm,hS⟩:=hR
  replace hm:=Qa hm;obtain⟨dR,fR,rfl,hm,bI⟩:=hm;try dsimp only [Qt] at hm
  refine wp_seq ?_
  replace hm:=Zi hm;obtain⟨gY,hm,cK⟩:=hm
  refine Hj (σ:=Bool × Int × Int) H (fun (bJ,aX,aY)=>[(0,v0),(2,.pointer (some ⟨bE,0,none⟩)),(5,aN),(6,.pointer (some ⟨aP,0,none⟩)),(9,.pointer (some ⟨aO,0,none⟩)),(67,.bool bJ)]) (fun (bJ,aX,aY) wl=>(Vy aM aL aE aF aA aB aC aG aD) (bJ,aX,aY)=some fR ∧ St NB w wl [erQ A aN aL,blkR bE [.int .i64 0,.bool false,.slice none 0 0,.slice none 0 0,.slice none 0 0,.int .i64 0,.slice none 0 0] 27,blkR aP [aQ,.int .i64 aX,.int .i64 aY] 248,ownR 5 1 aQ aM.b_.length (aM.b_.flatMap eB),blkR aO [.int .i64 aE,.bool aF,aH,aI,aJ,.int .i64 aG,aK] 27,ownR 114 2 aH aA.length (aA.flatMap Qc),ownR 116 3 aI aB.length (aB.flatMap Zx),ownR 118 4 aJ aC.length (aC.flatMap Zw),ownR 3 1 aK aD.length (aD.flatMap eI)]) ?_ ?_
  · skip
    refine wp_region_lit (n_q H (Zc rfl) rfl (W_q (Qo (Zef Tryz.underlying39 rfl rfl (hS.any 0 rfl : IsE A dQ aN aL).form) (show _=Value.bool (decide (aL=.nil)) by rw [Xw.isNil (hS.any 0 rfl : IsE A dQ aN aL)])) rfl (W_q (Zc rfl) rfl ?_)));clear H a;intro a H
    rcases Bool.eq_false_or_eq_true (decide (aL=.nil)) with aW|aW
    · replace H:=H.know 63 rfl aW
      replace hm:=Zu hm aW
      refine Wb H rfl rfl (n_q H (Zc rfl) rfl (Xe rfl rfl ?_));clear H a;intro a H
      replace hS:=hS.pk2
      obtain⟨gD,cL,eH,cM,cN⟩:=hS.frame (rs1:=[blkR aP [aQ,.int .i64 aR,.int .i64 aS] 248])
      replace hm:=Zi hm;obtain⟨b7,eJ,hm⟩:=hm
      refine Zj H rfl Zk9 (Xs (A:=A) cL (a0:=(⟨aM.b_,aR,aS⟩ : GWireCursor)) (fun w' hw=>(Kn (cM 2 _ rfl _ hw)).slr rfl (fun _ _=>rfl)) eJ) rfl ?_
      clear H;intro gZ g6 hv;clear a;intro a H;obtain⟨rfl,eK⟩:=hv
      replace hS:=cN _ _ eK;simp only [List.cons_append,List.nil_append] at hS;clear cL eH cM cN
      refine Wb H rfl rfl (n_q H (Hp rfl rfl) rfl (W_q (Qi rfl rfl) rfl ?_));clear H a;intro a H
      refine Ze (Za ?_)
      obtain rfl:=Option.some.inj hm;replace hm:=cK;try dsimp only at hm
      replace hS:=hS.pk8
      replace hS:=hS.pk8
      replace hS:=hS.pk8
      replace hS:=hS.pk8
      replace hS:=hS.pk8
      replace hS:=hS.pk8
      replace hS:=hS.pk6
      replace hS:=hS.pk8
      replace hS:=hS.pk8
      exact Wh (decide (0 < b7.1),b7.2.at_,b7.2.bound_) H ⟨rfl,rfl,rfl,rfl,rfl,rfl,trivial⟩ ⟨hm,hS⟩
    replace H:=H.know 63 rfl aW
    replace hm:=Zv hm aW
    refine Zci H rfl rfl (by decide) rfl (Qn rfl rfl (by decide) rfl (Qn rfl rfl (by decide) rfl (W_q (Jf rfl rfl) rfl ?_)));clear H a;intro a H
    refine Ze (Za ?_)
    obtain rfl:=Option.some.inj hm;replace hm:=cK;try dsimp only at hm
    exact Wh (false,aR,aS) H ⟨rfl,rfl,rfl,rfl,rfl,rfl,trivial⟩ ⟨hm,hS⟩
  clear H hS hm a;intro xx a bB H hR
  obtain⟨bJ,aX,aY⟩:=xx
  simp only [ent,List.map_cons,List.map_nil] at H;(try dsimp only at hR);obtain⟨hm,hS⟩:=hR;try dsimp only [Vy] at hm
  refine Zl H rfl (fun bK=>?_) (fun bK=>?_)
  · replace hm:=Zu hm bK
    refine wp_skip (Za (wp_block (wp_seq (wp_region_lit (n_q H (Zb rfl) rfl ?_)))));clear H a;intro a H
    refine Ze (Za (wp_seq (wp_region_lit (n_q H (Zb rfl) rfl ?_))));clear H a;intro a H
    refine Ze (Za (wp_seq (wp_region_lit (n_q H (Zc rfl) rfl ?_))));clear H a;intro a H
    replace hS:=hS.pk2
    obtain⟨gE,cO,cP,cQ,cR⟩:=hS.frame (rs1:=[blkR aP [aQ,.int .i64 aX,.int .i64 aY] 248])
    replace hm:=Zi hm;obtain⟨aT,eL,hm⟩:=hm
    refine Zj H rfl en105 (Zec (A:=A) (fun w' hw=>hG.ext (cP _ hw).ext) cO (a0:=(⟨aM.b_,aX,aY⟩ : GWireCursor)) (fun w' hw=>(Kn (cQ 2 _ rfl _ hw)).slr rfl (fun _ _=>rfl)) eL) rfl ?_
    clear H;intro g7 dS hv;clear a;intro a H;obtain⟨g8,b8,rfl,eM⟩:=hv
    replace hS:=cR _ _ eM;simp only [List.cons_append,List.nil_append] at hS;clear cO cP cQ cR
    refine n_q H (Zc rfl) rfl (W_q (Zk rfl rfl) rfl (W_q (Zk rfl rfl) rfl (W_q (Zk rfl rfl) rfl (W_q (Zb rfl) rfl (W_q (Zb rfl) rfl (W_q (Zb rfl) rfl ?_))))));clear H a;intro a H
    refine Ze (Za (wp_seq (wp_region_lit (n_q H (Zc rfl) rfl (W_q (Qo (Zef Tryz.underlying39 rfl rfl (hS.any 2 rfl : IsE A dS b8 aT.2.2.1).form) (show _=Value.bool (decide (aT.2.2.1=.nil)) by rw [Xw.isNil (hS.any 2 rfl : IsE A dS b8 aT.2.2.1)])) rfl ?_)))));clear H a;intro a H
    refine Ze (Za (Zl H rfl (fun bL=>?_) (fun bL=>?_)))
    · replace hm:=Zu hm bL
      refine wp_region_lit (n_q H (Zc rfl) rfl (W_q (Zc rfl) rfl ?_));clear H a;intro a H
      replace hm:=Zi hm;obtain⟨bM,eN,hm⟩:=hm
      replace hS:=hS.pk1
      obtain⟨fS,hv,hS'⟩:=St.optOpen eN hS;clear hS;subst hv;have hS:=hS';clear hS';try dsimp only at hS
      replace hS:=hS.pk10
      replace hS:=hS.pk10
      replace hS:=hS.pk10
      replace hS:=hS.pk10
      replace hS:=hS.pk10
      obtain⟨gF,cT,cU,cV,cW⟩:=hS.frame (rs1:=[blkR aO [.int .i64 aE,.bool aF,aH,aI,aJ,.int .i64 aG,aK] 27,ownR 114 2 aH aA.length (aA.flatMap Qc),ownR 116 3 aI aB.length (aB.flatMap Zx),ownR 118 4 aJ aC.length (aC.flatMap Zw),ownR 3 1 aK aD.length (aD.flatMap eI),blkR fS [aQ,.int .i64 bM.at_,.int .i64 bM.bound_] 248])
      replace hm:=Zi hm;obtain⟨aU,eO,hm⟩:=hm
      refine Zj H rfl en106 (Zlb (A:=A) (fun w' hw=>hG.ext (cU _ hw).ext) cT (a2:=(⟨aM.b_,bM.at_,bM.bound_⟩ : GWireCursor)) (fun w' hw=>(Kn (cV 4 _ rfl _ hw)).slr rfl (fun _ _=>rfl)) eO) rfl ?_
      clear H;intro fT g9 hv;clear a;intro a H;obtain⟨_,fU,fV,fW,fX,rfl,eP⟩:=hv
      replace hS:=cW _ _ eP;simp only [List.cons_append,List.nil_append] at hS;clear cT cU cV cW
      refine n_q H (Zb rfl) rfl ?_;clear H a;intro a H
      refine Ze (Zm (Za ?_))
      obtain rfl:=Option.some.inj hm
      replace hS:=hS.pk4
      replace hS:=hS.pk4
      replace hS:=hS.pk4
      replace hS:=hS.pk4
      replace hS:=hS.pk4
      replace hS:=hS.pick 11 rfl;dsimp only [List.eraseIdx] at hS
      replace hS:=hS.pk8
      replace hS:=hS.pick 11 rfl;dsimp only [List.eraseIdx] at hS
      replace hS:=hS.pk9
      replace hS:=hS.tk9
      exact Vh (dR,aU.1,aT.2.2.2.at_,aT.2.2.2.bound_,aU.2.1.Id,aU.2.1.Mobile,aU.2.1.Pages,aU.2.1.Procs,aU.2.1.Ports,aU.2.1.Events,aU.2.1.Sems,fT,fU,fV,fW,fX) H ⟨rfl,rfl,rfl,rfl,rfl,trivial⟩ ⟨bI,hS⟩ (Nat.lt_succ_self _)
    replace hm:=Zv hm bL
    refine wp_skip (Zm (Za ?_))
    obtain rfl:=Option.some.inj hm
    replace hS:=hS.pk10
    replace hS:=hS.pk10
    replace hS:=hS.pk10
    replace hS:=hS.pk10
    replace hS:=hS.pk10
    replace hS:=hS.pk10
    replace hS:=hS.pk6
    replace hS:=hS.pk10
    replace hS:=hS.pk9
    replace hS:=hS.tk9
    exact Vh (dR,aT.2.2.1,aT.2.2.2.at_,aT.2.2.2.bound_,aE,aF,aA,aB,aC,aG,aD,b8,aH,aI,aJ,aK) H ⟨rfl,rfl,rfl,rfl,rfl,trivial⟩ ⟨bI,hS⟩ (Nat.lt_succ_self _)
  replace hm:=Zv hm bK
  refine wp_exit (Zn (Zn (Zy ?_)))
  obtain rfl:=Option.some.inj hm;have hz : _=dP:=bI;subst hz;replace hm:=eG;try dsimp only at hm
  refine Za (wp_seq (wp_seq (wp_region_lit (n_q H (Zc rfl) rfl (W_q (Qo (Va Tryz.underlying39 rfl rfl (hS.any 0 rfl : IsE A bB aN aL).form) (show _=Value.bool (!decide (aL=.nil)) by rw [Xw.isNil (hS.any 0 rfl : IsE A bB aN aL)])) rfl ?_)))));clear H a;intro a H
  refine Ze (Za (Zl H rfl (fun bN=>?_) (fun bN=>?_)))
  · replace hm:=Zu hm bN
    refine wp_seq (Gi (kB w.heap.size (aP :: (aO :: [])) bB.drew.heap.size) 4 (by kernel_rfl) ?_)
    obtain⟨dT,bO⟩ : ∃ x,x=bB.drew:=⟨_,rfl⟩;rw [← bO];have eQ : Ext bB dT:=by rw [bO];exact Ext.drew' _
    clear bO
    replace hS:=hS.ext eQ
    have dN:=(hS.blk 2 rfl).lt
    have dA:=(hS.blk 4 rfl).lt
    have eT:=hS.x.size
    have hW:=Nat.le_refl dT.heap.size
    refine Zg 0 H rfl (Zz (cs:=[.int .i64 0,.bool false,.slice none 0 0,.slice none 0 0,.slice none 0 0,.int .i64 0,.slice none 0 0]) Zg9 Zno Znp rfl (by kernel_rfl)) rfl (by kernel_rfl) (by kernel_rfl) (by kernel_rfl) (by kernel_rfl) (fun _ _ _ h=>h) ?_;clear H a;intro a H
    refine Xo 1 H rfl (Zf rfl (LdC.old (hG.ld Hr (by decide) Hv) hS.x eT Zi4)) rfl (by kernel_rfl) (by kernel_rfl) (by kernel_rfl) (by kernel_rfl) (fun _ _ _ h=>h) ?_;clear H a;intro a H
    replace hS:=hS.pk1
    refine Qj 2 H rfl rfl rfl (vs:=[.int .i64 0,.bool false,.slice none 0 0,.slice none 0 0,.slice none 0 0,.int .i64 0,.slice none 0 0]) rfl Ut (hS.blk 0 rfl) rfl (by simp) (by kernel_rfl) (.inl (fun h=>Zi3 h (hS.ge (i:=0) rfl) (Zcq (hS.ne (i:=0) (j:=2) (by decide) rfl rfl) (Zcq (hS.ne (i:=0) (j:=4) (by decide) rfl rfl) Zcp)))) ?_
    clear H;intro hJ hN cX hz;clear a;intro a H;replace hS:=hS.setBlk hN cX;clear hN hz;replace hW:=Nat.le_trans hW cX.size
    refine Zg 3 H rfl (Zb rfl) rfl (by kernel_rfl) (by kernel_rfl) (by kernel_rfl) (by kernel_rfl) (fun _ _ _ h=>h) ?_;clear H a;intro a H
    refine Qx (by kernel_rfl) ?_
    refine Za (wp_ret (Zh ?_))
    obtain rfl:=Option.some.inj hm
    replace hS:=hS.nilOwn 114 2
    replace hS:=hS.nilOwn 116 3
    replace hS:=hS.nilOwn 118 4
    replace hS:=hS.nilOwn 3 1
    replace hS:=hS.dVar (A:=A) (g:=Hr) (by decide)
    replace hS:=hS.pk5
    replace hS:=hS.pk1
    replace hS:=hS.pk2
    replace hS:=hS.pk3
    replace hS:=hS.pk4
    replace hS:=hS.pk5
    replace hS:=hS.tk6
    refine Ti H (.inr rfl) rfl (vs:=[.agg #[.int .i64 0,.bool false,.slice none 0 0,.slice none 0 0,.slice none 0 0,.int .i64 0,.slice none 0 0],sv 340 A Hr]) (Qm rfl ((hS.blk 5 rfl).ldAll Zap Ut) (Xh rfl Qv)) ?_
    replace hS:=hS.tk5
    exact⟨_,_,_,_,_,rfl,hS⟩
  replace hm:=Zv hm bN
  refine wp_skip (Za (wp_seq (wp_seq (wp_region_lit (n_q H (Zf rfl ((hS.blk 4 rfl).ldAll Zap Ut)) rfl ?_)))));clear H a;intro a H
  replace hm:=Zi hm;obtain⟨bP,eU,hm⟩:=hm
  refine Zj H rfl en47 (Zaj (A:=A) (hG.ext hS.x) (⟨_,_,_,_,rfl,((hS.own 5 rfl).slr rfl (fun _ _=>rfl)),((hS.own 6 rfl).slr rfl (fun _ _=>rfl)),((hS.own 7 rfl).slr rfl (fun _ _=>rfl)),((hS.own 8 rfl).slr rfl (fun _ _=>rfl))⟩ : Qw _ [.int .i64 aE,.bool aF,aH,aI,aJ,.int .i64 aG,aK] (⟨aE,aF,aA,aB,aC,aG,aD⟩ : GPlan)) eU) rfl ?_
  clear H;intro hM dU hv;clear a;intro a H;obtain⟨hU,dV,rfl,eV⟩:=hv
  replace hS:=hS.new eV;simp only [List.cons_append,List.nil_append] at hS
  refine n_q H (Zc rfl) rfl (W_q (Zk rfl rfl) rfl (W_q (Zk rfl rfl) rfl (W_q (Zb rfl) rfl (W_q (Zb rfl) rfl ?_))));clear H a;intro a H
  refine Ze (Za ?_)
  replace hm:=Zi hm;obtain⟨hY,hm,cY⟩:=hm
  refine Hj (σ:=Bool) H (fun a9=>[(2,.pointer (some ⟨bE,0,none⟩)),(9,.pointer (some ⟨aO,0,none⟩)),(95,.bool a9)]) (fun a9 wl=>(Yt aE aF aA aB aC aG aD) a9=some r ∧ St NB w wl [blkR bE [.int .i64 0,.bool false,.slice none 0 0,.slice none 0 0,.slice none 0 0,.int .i64 0,.slice none 0 0] 27,blkR aO [.int .i64 aE,.bool aF,aH,aI,aJ,.int .i64 aG,aK] 27,ownR 114 2 aH aA.length (aA.flatMap Qc),ownR 116 3 aI aB.length (aB.flatMap Zx),ownR 118 4 aJ aC.length (aC.flatMap Zw),ownR 3 1 aK aD.length (aD.flatMap eI)]) ?_ ?_
  · skip
    refine wp_region_lit (n_q H (Zc rfl) rfl (W_q (Qo (Va Tryz.underlying39 rfl rfl (hS.any 1 rfl : IsE A dU dV bP.2).form) (show _=Value.bool (!decide (bP.2=.nil)) by rw [Xw.isNil (hS.any 1 rfl : IsE A dU dV bP.2)])) rfl (W_q (Zc rfl) rfl ?_)));clear H a;intro a H
    rcases Bool.eq_false_or_eq_true (!decide (bP.2=.nil)) with aV|aV
    · replace H:=H.know 90 rfl aV
      replace hm:=Zu hm aV
      refine Zci H rfl rfl (by decide) rfl (Qn rfl rfl (by decide) rfl (Qn rfl rfl (by decide) rfl (Qn rfl rfl (by decide) rfl (W_q (Qi rfl rfl) rfl ?_))));clear H a;intro a H
      refine Ze (Za ?_)
      obtain rfl:=Option.some.inj hm;replace hm:=cY;try dsimp only at hm
      replace hS:=hS.pk10
      replace hS:=hS.pk10
      replace hS:=hS.pk10
      replace hS:=hS.pk10
      replace hS:=hS.pk10
      replace hS:=hS.pk8
      replace hS:=hS.tk6
      exact Wh true H ⟨rfl,rfl,rfl,trivial⟩ ⟨hm,hS⟩
    replace H:=H.know 90 rfl aV
    replace hm:=Zv hm aV
    refine Wb H rfl rfl (n_q H (Zc rfl) rfl (Xe rfl rfl (W_q (Zc rfl) rfl (Xe rfl rfl ?_))));clear H a;intro a H
    replace hm:=Zi hm;obtain⟨eW,dW,hm⟩:=hm
    refine Zj H rfl en107 (Zd0 (A:=A) ((hS.own 0 rfl).slr rfl (fun _ _=>rfl)) (h0.ext (Zq.mono _) hS.x) dW) rfl ?_
    clear H;intro gG gH hv;clear a;intro a H;obtain⟨rfl,dX⟩:=hv
    replace hS:=hS.ext dX
    refine Wb H rfl rfl (n_q H (Zf5 rfl) rfl (W_q (Jf rfl rfl) rfl ?_));clear H a;intro a H
    refine Ze (Za ?_)
    obtain rfl:=Option.some.inj hm;replace hm:=cY;try dsimp only at hm
    replace hS:=hS.pk10
    replace hS:=hS.pk10
    replace hS:=hS.pk10
    replace hS:=hS.pk10
    replace hS:=hS.pk10
    replace hS:=hS.pk8
    replace hS:=hS.tk6
    exact Wh (!eW) H ⟨rfl,rfl,rfl,trivial⟩ ⟨hm,hS⟩
  clear H hS hm a;intro a9 a bQ H hR
  simp only [ent,List.map_cons,List.map_nil] at H;(try dsimp only at hR);obtain⟨hm,hS⟩:=hR;try dsimp only [Yt] at hm
  refine Zl H rfl (fun bC=>?_) (fun bC=>?_)
  · replace hm:=Zu hm bC
    refine wp_seq (Gi (kB w.heap.size (aO :: []) bQ.drew.heap.size) 4 (by kernel_rfl) ?_)
    obtain⟨cZ,bD⟩ : ∃ x,x=bQ.drew:=⟨_,rfl⟩;rw [← bD];have dY : Ext bQ cZ:=by rw [bD];exact Ext.drew' _
    clear bD
    replace hS:=hS.ext dY
    have dA:=(hS.blk 1 rfl).lt
    have dZ:=hS.x.size
    have hW:=Nat.le_refl cZ.heap.size
    refine Zg 0 H rfl (Zz (cs:=[.int .i64 0,.bool false,.slice none 0 0,.slice none 0 0,.slice none 0 0,.int .i64 0,.slice none 0 0]) Zg9 Zno Znp rfl (by kernel_rfl)) rfl (by kernel_rfl) (by kernel_rfl) (by kernel_rfl) (by kernel_rfl) (fun _ _ _ h=>h) ?_;clear H a;intro a H
    refine Xo 1 H rfl (Zf rfl (LdC.old (hG.ld Hr (by decide) Hv) hS.x dZ Zi4)) rfl (by kernel_rfl) (by kernel_rfl) (by kernel_rfl) (by kernel_rfl) (fun _ _ _ h=>h) ?_;clear H a;intro a H
    refine Qj 2 H rfl rfl rfl (vs:=[.int .i64 0,.bool false,.slice none 0 0,.slice none 0 0,.slice none 0 0,.int .i64 0,.slice none 0 0]) rfl Ut (hS.blk 0 rfl) rfl (by simp) (by kernel_rfl) (.inl (fun h=>Zi3 h (hS.ge (i:=0) rfl) (Zcq (hS.ne (i:=0) (j:=1) (by decide) rfl rfl) Zcp))) ?_
    clear H;intro gI hN bR hz;clear a;intro a H;replace hS:=hS.setBlk hN bR;clear hN hz;replace hW:=Nat.le_trans hW bR.size
    refine Zg 3 H rfl (Zb rfl) rfl (by kernel_rfl) (by kernel_rfl) (by kernel_rfl) (by kernel_rfl) (fun _ _ _ h=>h) ?_;clear H a;intro a H
    refine Qx (by kernel_rfl) ?_
    refine Za (wp_ret (Zh ?_))
    obtain rfl:=Option.some.inj hm
    replace hS:=hS.nilOwn 114 2
    replace hS:=hS.nilOwn 116 3
    replace hS:=hS.nilOwn 118 4
    replace hS:=hS.nilOwn 3 1
    replace hS:=hS.dVar (A:=A) (g:=Hr) (by decide)
    replace hS:=hS.pk5
    replace hS:=hS.pk1
    replace hS:=hS.pk2
    replace hS:=hS.pk3
    replace hS:=hS.pk4
    replace hS:=hS.pk5
    replace hS:=hS.tk6
    refine Ti H (.inr rfl) rfl (vs:=[.agg #[.int .i64 0,.bool false,.slice none 0 0,.slice none 0 0,.slice none 0 0,.int .i64 0,.slice none 0 0],sv 340 A Hr]) (Qm rfl ((hS.blk 5 rfl).ldAll Zap Ut) (Xh rfl Qv)) ?_
    replace hS:=hS.tk5
    exact⟨_,_,_,_,_,rfl,hS⟩
  replace hm:=Zv hm bC
  refine wp_skip (Za (wp_seq (wp_region_lit (n_q H (Zf rfl ((hS.blk 1 rfl).ldAll Zap Ut)) rfl ?_))));clear H a;intro a H
  refine Zr H rfl rfl (vs:=[.int .i64 aE,.bool aF,aH,aI,aJ,.int .i64 aG,aK]) rfl Ut (hS.blk 0 rfl) rfl (by simp [(((hS.own 2 rfl).slr rfl (fun _ _=>rfl))).one,(((hS.own 3 rfl).slr rfl (fun _ _=>rfl))).one,(((hS.own 4 rfl).slr rfl (fun _ _=>rfl))).one,(((hS.own 5 rfl).slr rfl (fun _ _=>rfl))).one]) ?_
  clear H;intro gJ hN d5 hz;clear a;intro a H;replace hS:=hS.setBlk hN d5;clear hN hz
  refine n_q H (Zb rfl) rfl ?_;clear H a;intro a H
  refine Ze (Za (wp_ret ?_))
  obtain rfl:=Option.some.inj hm
  replace hS:=hS.dNil (A:=A)
  replace hS:=hS.pk1
  replace hS:=hS.pk1
  replace hS:=hS.pk6
  replace hS:=hS.pk6
  replace hS:=hS.pk6
  replace hS:=hS.pk6
  replace hS:=hS.tk6
  refine Ti H (.inr rfl) rfl (vs:=[.agg #[.int .i64 aE,.bool aF,aH,aI,aJ,.int .i64 aG,aK],.nilIface]) (Qm rfl ((hS.blk 5 rfl).ldAll Zap Ut) (Xh rfl Qv)) ?_
  replace hS:=hS.tk5
  exact⟨_,_,_,_,_,rfl,hS⟩
theorem Te {w : World} {A : Nat → Addr} {a0 : Int} {r : GR10Err} (hm : Vp a0=some r) :
    Calls Tryz.prog 118 [.int .i64 a0].toArray w (Ret fun u w'=>u=.agg (Za1 r).toArray ∧ Ext w w'):=by
  have hS:=St.begin NB w
  unfold Vp at hm
  refine enter Tryz.func118 rfl rfl rfl ?_;intro a H;dsimp only [Qk,Nat.zero_add,Nat.reduceAdd] at H
  refine wp_seq (wp_region_lit (Qr H Ze2 rfl ?_))
  clear H;intro aC aD hN aA hs;clear a;intro a H
  replace hS:=hS.newBlk hN aA hs;clear hN hs
  refine Ze (Za (wp_seq (wp_region_lit (n_q H (Zc rfl) rfl (W_q (Zz (cs:=[.int .i64 a0,.int .i64 (-1)]) Ze2 Zmk Zml rfl (by kernel_rfl)) rfl ?_)))));clear H a;intro a H
  refine Zr H rfl rfl (vs:=[.int .i64 a0,.int .i64 (-1)]) rfl Vt (hS.blk 0 rfl) rfl (by simp) ?_
  clear H;intro aE hN aB hz;clear a;intro a H;replace hS:=hS.setBlk hN aB;clear hN hz
  refine Ze (Za (wp_ret ?_))
  obtain rfl:=Option.some.inj hm
  refine Ti H (.inr rfl) rfl (vs:=[.agg #[.int .i64 a0,.int .i64 (-1)]]) (Qm rfl ((hS.blk 0 rfl).ldAll Zce Vt) Qv) ?_
  replace hS:=hS.tk0
  exact⟨rfl,hS.x⟩
theorem Zaq {w : World} {A : Nat → Addr} {r : GR10Err} (hm : Vl=some r) :
    Calls Tryz.prog 124 [].toArray w (Ret fun u w'=>u=.agg (Za1 r).toArray ∧ Ext w w'):=by
  have hS:=St.begin NB w
  unfold Vl at hm
  refine enter Tryz.func124 rfl rfl rfl ?_;intro a H;dsimp only [Qk,Nat.zero_add,Nat.reduceAdd] at H
  refine wp_seq (wp_region_lit (Qr H Ze2 rfl ?_))
  clear H;intro aC aD hN aA hs;clear a;intro a H
  replace hS:=hS.newBlk hN aA hs;clear hN hs
  refine Ze (Za (wp_seq (wp_region_lit (n_q H (Zz (cs:=[.int .i64 0,.int .i64 (-1)]) Ze2 Zmk Zml rfl (by kernel_rfl)) rfl ?_))));clear H a;intro a H
  refine Zr H rfl rfl (vs:=[.int .i64 0,.int .i64 (-1)]) rfl Vt (hS.blk 0 rfl) rfl (by simp) ?_
  clear H;intro aE hN aB hz;clear a;intro a H;replace hS:=hS.setBlk hN aB;clear hN hz
  refine Ze (Za (wp_ret ?_))
  obtain rfl:=Option.some.inj hm
  refine Ti H (.inr rfl) rfl (vs:=[.agg #[.int .i64 0,.int .i64 (-1)]]) (Qm rfl ((hS.blk 0 rfl).ldAll Zce Vt) Qv) ?_
  replace hS:=hS.tk0
  exact⟨rfl,hS.x⟩
theorem Zj2 {w : World} {A : Nat → Addr} {cs0 : List Value} {a0 : GPlan} (h0 : Qw w cs0 a0) {r : GR10Err} (hm : Zbk a0=some r) :
    Calls Tryz.prog 119 [.agg cs0.toArray].toArray w (Ret fun u w'=>u=.agg (Za1 r).toArray ∧ Ext w w'):=by
  obtain⟨aE,aF,aG,aH,rfl,aC,bN,bO,bP⟩:=h0
  have hS:=St.begin NB w
  unfold Zbk at hm
  refine enter Tryz.func119 rfl rfl rfl ?_;intro a H;dsimp only [Qk,Nat.zero_add,Nat.reduceAdd] at H
  refine wp_seq (wp_region_lit (Wt H rfl (cs:=[.int .i64 a0.Id,.bool a0.Mobile,aE,aF,aG,.int .i64 a0.Events,aH]) rfl rfl ?_))
  clear H;intro aW cC hN bF hs;clear a;intro a H
  replace hS:=hS.newBlk hN bF hs;clear hN hs
  refine Qr H Ze2 rfl ?_
  clear H;intro aX cD hN bG hs;clear a;intro a H
  replace hS:=hS.newBlk hN bG hs;clear hN hs
  refine Ze (Za (wp_seq (wp_seq (wp_region_lit (n_c H (fun HC=>?_))))));clear H
  refine Tn HC (Zd rfl Vs) rfl (by kernel_rfl) (V_q (Zf rfl ((hS.blk 1 rfl).ld Zgt rfl)) rfl (by kernel_rfl) ?_);clear HC a;intro a HC
  obtain⟨cF,cG,aB,bX,bY⟩:=SlR.formV (aC.ext (Zq.mono _) hS.x)
  refine Tn HC (Qf Tryz.underlying22 rfl aB) rfl (by kernel_rfl) (V_q (Xz (i:=a0.Pages.length) (j:=1) rfl rfl) rfl (by kernel_rfl) (V_q (Zc rfl) rfl (by kernel_rfl) (V_g (Zd rfl Vs) (by kernel_rfl) (by kernel_rfl) (by kernel_rfl) (V_g (Zf rfl ((hS.blk 1 rfl).ld Zgt rfl)) (by kernel_rfl) (by kernel_rfl) (by kernel_rfl) (V_g (Qf Tryz.underlying22 rfl aB) (by kernel_rfl) (by kernel_rfl) (by kernel_rfl) (V_g (Zdn (i:=a0.Pages.length) (j:=32) rfl rfl) (by kernel_rfl) (by kernel_rfl) (by kernel_rfl) (Zet (j:=4) rfl rfl rfl (by kernel_rfl) (by kernel_rfl) ?_)))))));clear HC a;intro a HC
  have H:=HC.has;clear HC
  refine Ze (Za (Zl H rfl (fun aU=>?_) (fun aU=>?_)))
  · replace hm:=Zu hm aU
    refine wp_seq (wp_region_lit ?_)
    replace hm:=Zi hm;obtain⟨aY,bH,hm⟩:=hm
    refine Zj H rfl Zmm (Te (A:=A) bH) rfl ?_
    clear H;intro cH cI hv;clear a;intro a H;obtain⟨rfl,bI⟩:=hv
    replace hS:=hS.ext bI
    refine Zr H rfl rfl (vs:=[.int .i64 aY.Code,.int .i64 aY.Place]) rfl Vt (hS.blk 0 rfl) rfl (by simp) ?_
    clear H;intro cJ hN bJ hz;clear a;intro a H;replace hS:=hS.setBlk hN bJ;clear hN hz
    refine Ze (Za (wp_ret (Zh ?_)))
    obtain rfl:=Option.some.inj hm
    replace hS:=hS.tk1
    refine Ti H (.inr rfl) rfl (vs:=[.agg #[.int .i64 aY.Code,.int .i64 aY.Place]]) (Qm rfl ((hS.blk 0 rfl).ldAll Zce Vt) Qv) ?_
    replace hS:=hS.tk0
    exact⟨rfl,hS.x⟩
  replace hm:=Zv hm aU
  refine wp_skip (Za (wp_seq (wp_seq (wp_region_lit (n_q H (Zb rfl) rfl ?_)))));clear H a;intro a H
  refine Ze (Za (wp_block ?_))
  replace hS:=hS.pk1
  replace hm:=Zi hm;obtain⟨aZ,hm,aV⟩:=hm;replace hm:=Qg hm;obtain⟨bQ,hm⟩:=hm
  refine Jd (σ:=Nat × Nat) (fun (m,aA)=>[(1,.pointer (some ⟨aW,0,none⟩)),(2,.pointer (some ⟨aX,0,none⟩)),(3,.int .i64 ((aA : Nat) : Int))]) (fun (m,aA) wl=>Js (Wo a0) m aA=some aZ ∧ St NB w wl [blkR aW [.int .i64 a0.Id,.bool a0.Mobile,aE,aF,aG,.int .i64 a0.Events,aH] 27,blkR aX [.int .i64 0,.int .i64 0] 124]) (fun (m,aA)=>m) (bQ,0) H ⟨rfl,rfl,rfl,trivial⟩ ⟨hm,hS⟩ ?_
  clear H hS hm a;intro xx a cK H hR;obtain⟨m,aA⟩:=xx;simp only [ent,List.map_cons,List.map_nil] at H;(try dsimp only at hR);obtain⟨hm,hS⟩:=hR
  replace hm:=Qa hm;obtain⟨bR,bS,rfl,hm,aI⟩:=hm;try dsimp only [Wo] at hm
  refine wp_seq (wp_seq (wp_region_lit (n_q H (Zc rfl) rfl (W_q (Zd rfl Vs) rfl (W_q (Zf rfl ((hS.blk 0 rfl).ld Zgt rfl)) rfl (W_q (Qf Tryz.underlying22 rfl aB) rfl (W_q (Xz (i:=aA) (j:=a0.Pages.length) rfl rfl) rfl ?_)))))));clear H a;intro a H
  refine Ze (Za (Zl H rfl (fun aJ=>?_) (fun aJ=>?_)))
  · replace hm:=Zu hm aJ
    have bW : aA < a0.Pages.length:=of_decide_eq_true aJ
    refine wp_skip (Za (wp_seq (wp_block (wp_seq ?_))))
    replace hm:=Zi hm;obtain⟨cL,hm,a9⟩:=hm
    refine Hj (σ:=Bool) H (fun aK=>[(1,.pointer (some ⟨aW,0,none⟩)),(2,.pointer (some ⟨aX,0,none⟩)),(3,.int .i64 ((aA : Nat) : Int)),(37,.bool aK)]) (fun aK wl=>(Ts a0 aA) aK=some bS ∧ St NB w wl [blkR aW [.int .i64 a0.Id,.bool a0.Mobile,aE,aF,aG,.int .i64 a0.Events,aH] 27,blkR aX [.int .i64 0,.int .i64 0] 124]) ?_ ?_
    · skip
      refine wp_region_lit (n_q H (Zd rfl Vs) rfl (W_q (Zf rfl ((hS.blk 0 rfl).ld Zgt rfl)) rfl (W_q (Zc rfl) rfl ?_)));clear H a;intro a H
      replace hm:=Zi hm;obtain⟨bK,aL,hm⟩:=hm
      obtain⟨bT,aR⟩:=SlR.adV (aC.ext (Zq.mono _) hS.x) aB aL
      refine n_q H (Jn (i:=aA) Tryz.underlying22 Tk rfl aB aR rfl (Ho aL)) rfl (W_q (Xt rfl Zeu) rfl (W_q (Zf rfl (SlR.ldCellV (j:=0) (aC.ext (Zq.mono _) hS.x) aB aR ag3 aL rfl)) rfl (W_q (Un rfl rfl) rfl (W_q (Zc rfl) rfl ?_))));clear H a;intro a H
      rcases Bool.eq_false_or_eq_true (decide (bK.Rights < 0)) with aD|aD
      · replace H:=H.know 29 rfl aD
        replace hm:=Zu hm aD
        refine Zci H rfl rfl (by decide) rfl (Qn rfl rfl (by decide) rfl (Qn rfl rfl (by decide) rfl (Qn rfl rfl (by decide) rfl (Qn rfl rfl (by decide) rfl (Qn rfl rfl (by decide) rfl (Qn rfl rfl (by decide) rfl (W_q (Qi rfl rfl) rfl ?_)))))));clear H a;intro a H
        refine Ze (Za ?_)
        obtain rfl:=Option.some.inj hm;replace hm:=a9;try dsimp only at hm
        exact Wh true H ⟨rfl,rfl,rfl,rfl,trivial⟩ ⟨hm,hS⟩
      replace H:=H.know 29 rfl aD
      replace hm:=Zv hm aD
      refine Wb H rfl rfl (n_q H (Zd rfl Vs) rfl (Xe rfl rfl (W_q (Zf rfl ((hS.blk 0 rfl).ld Zgt rfl)) rfl (Xe rfl rfl (W_q (Zc rfl) rfl (Xe rfl rfl ?_))))));clear H a;intro a H
      replace hm:=Zi hm;obtain⟨bL,aM,hm⟩:=hm
      obtain⟨bU,aS⟩:=SlR.adV (aC.ext (Zq.mono _) hS.x) aB aM
      refine n_q H (Jn (i:=aA) Tryz.underlying22 Tk rfl aB aS rfl (Ho aM)) rfl (Xe rfl rfl (W_q (Xt rfl Zeu) rfl (Xe rfl rfl (W_q (Zf rfl (SlR.ldCellV (j:=0) (aC.ext (Zq.mono _) hS.x) aB aS ag3 aM rfl)) rfl (Xe rfl rfl (W_q (Hp rfl rfl) rfl (W_q (Jf rfl rfl) rfl ?_)))))));clear H a;intro a H
      refine Ze (Za ?_)
      obtain rfl:=Option.some.inj hm;replace hm:=a9;try dsimp only at hm
      exact Wh (decide (7 < bL.Rights)) H ⟨rfl,rfl,rfl,rfl,trivial⟩ ⟨hm,hS⟩
    clear H hS hm a;intro aK a bZ H hR
    simp only [ent,List.map_cons,List.map_nil] at H;(try dsimp only at hR);obtain⟨hm,hS⟩:=hR;try dsimp only [Ts] at hm
    refine Zl H rfl (fun aN=>?_) (fun aN=>?_)
    · replace hm:=Zu hm aN
      refine wp_seq (wp_region_lit (n_q H (Zc rfl) rfl (W_q (Zz (cs:=[.int .i64 4,.int .i64 ((aA : Nat) : Int)]) Ze2 Zmk Zml rfl (by kernel_rfl)) rfl ?_)));clear H a;intro a H
      replace hS:=hS.pk1
      refine Zr H rfl rfl (vs:=[.int .i64 4,.int .i64 ((aA : Nat) : Int)]) rfl Vt (hS.blk 0 rfl) rfl (by simp) ?_
      clear H;intro b7 hN bA hz;clear a;intro a H;replace hS:=hS.setBlk hN bA;clear hN hz
      refine Ze (Za (wp_ret (Zh (Zo (Zh (Zh (Zo (Zh ?_))))))))
      obtain rfl:=Option.some.inj hm;have hz : _=aZ:=aI;subst hz;replace hm:=aV;try dsimp only at hm
      obtain rfl:=Option.some.inj hm
      replace hS:=hS.tk1
      refine Ti H (.inr rfl) rfl (vs:=[.agg #[.int .i64 4,.int .i64 ((aA : Nat) : Int)]]) (Qm rfl ((hS.blk 0 rfl).ldAll Zce Vt) Qv) ?_
      replace hS:=hS.tk0
      exact⟨rfl,hS.x⟩
    replace hm:=Zv hm aN
    refine wp_skip (Za (wp_seq (wp_region_lit (n_q H (Zd rfl Vs) rfl (W_q (Zf rfl ((hS.blk 0 rfl).ld Zgt rfl)) rfl (W_q (Zc rfl) rfl ?_))))));clear H a;intro a H
    replace hm:=Zi hm;obtain⟨bM,aO,hm⟩:=hm
    obtain⟨bV,aT⟩:=SlR.adV (aC.ext (Zq.mono _) hS.x) aB aO
    refine n_q H (Jn (i:=aA) Tryz.underlying22 Tk rfl aB aT rfl (Ho aO)) rfl (W_q (Xt rfl Zhs) rfl (W_q (Zf rfl (SlR.ldCellV (j:=1) (aC.ext (Zq.mono _) hS.x) aB aT ag9 aO rfl)) rfl (W_q (Zs7 Tryz.underlying9 rfl) rfl (W_q (Zdn (i:=bM.Init.size) (j:=64) rfl rfl) rfl ?_))));clear H a;intro a H
    refine Ze (Za (Zl H rfl (fun aP=>?_) (fun aP=>?_)))
    · replace hm:=Zu hm aP
      refine wp_seq (wp_region_lit (n_q H (Zc rfl) rfl (W_q (Zz (cs:=[.int .i64 5,.int .i64 ((aA : Nat) : Int)]) Ze2 Zmk Zml rfl (by kernel_rfl)) rfl ?_)));clear H a;intro a H
      replace hS:=hS.pk1
      refine Zr H rfl rfl (vs:=[.int .i64 5,.int .i64 ((aA : Nat) : Int)]) rfl Vt (hS.blk 0 rfl) rfl (by simp) ?_
      clear H;intro b8 hN bB hz;clear a;intro a H;replace hS:=hS.setBlk hN bB;clear hN hz
      refine Ze (Za (wp_ret (Zo (Zh (Zh (Zo (Zh ?_)))))))
      obtain rfl:=Option.some.inj hm;have hz : _=aZ:=aI;subst hz;replace hm:=aV;try dsimp only at hm
      obtain rfl:=Option.some.inj hm
      replace hS:=hS.tk1
      refine Ti H (.inr rfl) rfl (vs:=[.agg #[.int .i64 5,.int .i64 ((aA : Nat) : Int)]]) (Qm rfl ((hS.blk 0 rfl).ldAll Zce Vt) Qv) ?_
      replace hS:=hS.tk0
      exact⟨rfl,hS.x⟩
    replace hm:=Zv hm aP
    refine wp_skip (Zm (Za (wp_region_lit (n_q H (Zc rfl) rfl (W_q (Kb (i:=aA) (j:=1) rfl rfl (by omega)) rfl (W_q (Zb rfl) rfl ?_))))));clear H a;intro a H
    refine Ze (Za ?_)
    obtain rfl:=Option.some.inj hm
    exact Vh (bR,aA + 1) H ⟨rfl,rfl,rfl,trivial⟩ ⟨aI,hS⟩ (Nat.lt_succ_self _)
  replace hm:=Zv hm aJ
  refine wp_exit (Zn (Zn (Zy ?_)))
  obtain rfl:=Option.some.inj hm;have hz : _=aZ:=aI;subst hz;replace hm:=aV;try dsimp only at hm
  refine Za (wp_seq (wp_region_lit ?_))
  replace hm:=Zi hm;obtain⟨aQ,bC,hm⟩:=hm
  refine Zj H rfl Zp5 (Zaq (A:=A) bC) rfl ?_
  clear H;intro b9 cA hv;clear a;intro a H;obtain⟨rfl,bD⟩:=hv
  replace hS:=hS.ext bD
  replace hS:=hS.pk1
  refine Zr H rfl rfl (vs:=[.int .i64 aQ.Code,.int .i64 aQ.Place]) rfl Vt (hS.blk 0 rfl) rfl (by simp) ?_
  clear H;intro cB hN bE hz;clear a;intro a H;replace hS:=hS.setBlk hN bE;clear hN hz
  refine Ze (Za (wp_ret ?_))
  obtain rfl:=Option.some.inj hm
  replace hS:=hS.tk1
  refine Ti H (.inr rfl) rfl (vs:=[.agg #[.int .i64 aQ.Code,.int .i64 aQ.Place]]) (Qm rfl ((hS.blk 0 rfl).ldAll Zce Vt) Qv) ?_
  replace hS:=hS.tk0
  exact⟨rfl,hS.x⟩
theorem Zj3 {w : World} {A : Nat → Addr} {cs0 : List Value} {a0 : GPlan} (h0 : Qw w cs0 a0) {r : GR10Err} (hm : Zbl a0=some r) :
    Calls Tryz.prog 120 [.agg cs0.toArray].toArray w (Ret fun u w'=>u=.agg (Za1 r).toArray ∧ Ext w w'):=by
  obtain⟨aJ,aK,aL,aM,rfl,aY,aH,bM,bN⟩:=h0
  have hS:=St.begin NB w
  unfold Zbl at hm
  refine enter Tryz.func120 rfl rfl rfl ?_;intro a H;dsimp only [Qk,Nat.zero_add,Nat.reduceAdd] at H
  refine wp_seq (wp_region_lit (Wt H rfl (cs:=[.int .i64 a0.Id,.bool a0.Mobile,aJ,aK,aL,.int .i64 a0.Events,aM]) rfl rfl ?_))
  clear H;intro aU cB hN bF hs;clear a;intro a H
  replace hS:=hS.newBlk hN bF hs;clear hN hs
  refine Qr H Ze2 rfl ?_
  clear H;intro aV cC hN bG hs;clear a;intro a H
  replace hS:=hS.newBlk hN bG hs;clear hN hs
  refine Ze (Za (wp_seq (wp_seq (wp_region_lit (n_c H (fun HC=>?_))))));clear H
  refine Tn HC (Zd rfl Ur) rfl (by kernel_rfl) (V_q (Zf rfl ((hS.blk 1 rfl).ld Zii rfl)) rfl (by kernel_rfl) ?_);clear HC a;intro a HC
  obtain⟨cD,cF,aF,bV,bW⟩:=SlR.formV (aH.ext (Zq.mono _) hS.x)
  refine Tn HC (Qf Tryz.underlying23 rfl aF) rfl (by kernel_rfl) (V_q (Xz (i:=a0.Procs.length) (j:=1) rfl rfl) rfl (by kernel_rfl) (V_q (Zc rfl) rfl (by kernel_rfl) (V_g (Zd rfl Ur) (by kernel_rfl) (by kernel_rfl) (by kernel_rfl) (V_g (Zf rfl ((hS.blk 1 rfl).ld Zii rfl)) (by kernel_rfl) (by kernel_rfl) (by kernel_rfl) (V_g (Qf Tryz.underlying23 rfl aF) (by kernel_rfl) (by kernel_rfl) (by kernel_rfl) (V_g (Zdn (i:=a0.Procs.length) (j:=8) rfl rfl) (by kernel_rfl) (by kernel_rfl) (by kernel_rfl) (Zet (j:=4) rfl rfl rfl (by kernel_rfl) (by kernel_rfl) ?_)))))));clear HC a;intro a HC
  have H:=HC.has;clear HC
  refine Ze (Za (Zl H rfl (fun aR=>?_) (fun aR=>?_)))
  · replace hm:=Zu hm aR
    refine wp_seq (wp_region_lit ?_)
    replace hm:=Zi hm;obtain⟨aW,bH,hm⟩:=hm
    refine Zj H rfl Zmm (Te (A:=A) bH) rfl ?_
    clear H;intro cG cH hv;clear a;intro a H;obtain⟨rfl,bI⟩:=hv
    replace hS:=hS.ext bI
    refine Zr H rfl rfl (vs:=[.int .i64 aW.Code,.int .i64 aW.Place]) rfl Vt (hS.blk 0 rfl) rfl (by simp) ?_
    clear H;intro cI hN bJ hz;clear a;intro a H;replace hS:=hS.setBlk hN bJ;clear hN hz
    refine Ze (Za (wp_ret (Zh ?_)))
    obtain rfl:=Option.some.inj hm
    replace hS:=hS.tk1
    refine Ti H (.inr rfl) rfl (vs:=[.agg #[.int .i64 aW.Code,.int .i64 aW.Place]]) (Qm rfl ((hS.blk 0 rfl).ldAll Zce Vt) Qv) ?_
    replace hS:=hS.tk0
    exact⟨rfl,hS.x⟩
  replace hm:=Zv hm aR
  refine wp_skip (Za (wp_seq (wp_seq (wp_region_lit (n_q H (Zb rfl) rfl ?_)))));clear H a;intro a H
  refine Ze (Za (wp_block ?_))
  replace hS:=hS.pk1
  replace hm:=Zi hm;obtain⟨aZ,hm,a9⟩:=hm;replace hm:=Qg hm;obtain⟨bO,hm⟩:=hm
  refine Jd (σ:=Nat × Nat) (fun (m,aA)=>[(1,.pointer (some ⟨aU,0,none⟩)),(2,.pointer (some ⟨aV,0,none⟩)),(3,.int .i64 ((aA : Nat) : Int))]) (fun (m,aA) wl=>Js (Uw a0) m aA=some aZ ∧ St NB w wl [blkR aU [.int .i64 a0.Id,.bool a0.Mobile,aJ,aK,aL,.int .i64 a0.Events,aM] 27,blkR aV [.int .i64 0,.int .i64 0] 124]) (fun (m,aA)=>m) (bO,0) H ⟨rfl,rfl,rfl,trivial⟩ ⟨hm,hS⟩ ?_
  clear H hS hm a;intro xx a cJ H hR;obtain⟨m,aA⟩:=xx;simp only [ent,List.map_cons,List.map_nil] at H;(try dsimp only at hR);obtain⟨hm,hS⟩:=hR
  replace hm:=Qa hm;obtain⟨bP,bQ,rfl,hm,aS⟩:=hm;try dsimp only [Uw] at hm
  refine wp_seq (wp_seq (wp_region_lit (n_q H (Zc rfl) rfl (W_q (Zd rfl Ur) rfl (W_q (Zf rfl ((hS.blk 0 rfl).ld Zii rfl)) rfl (W_q (Qf Tryz.underlying23 rfl aF) rfl (W_q (Xz (i:=aA) (j:=a0.Procs.length) rfl rfl) rfl ?_)))))));clear H a;intro a H
  refine Ze (Za (Zl H rfl (fun aN=>?_) (fun aN=>?_)))
  · replace hm:=Zu hm aN
    have bR : aA < a0.Procs.length:=of_decide_eq_true aN
    refine wp_skip (Za (wp_seq (wp_block (wp_seq (wp_region_lit (n_q H (Zd rfl Ur) rfl (W_q (Zf rfl ((hS.blk 0 rfl).ld Zii rfl)) rfl (W_q (Zc rfl) rfl ?_))))))));clear H a;intro a H
    replace hm:=Zi hm;obtain⟨aG,aT,hm⟩:=hm
    obtain⟨bS,aX⟩:=SlR.adV (aH.ext (Zq.mono _) hS.x) aF aT
    refine n_q H (Jn (i:=aA) Tryz.underlying23 Tl rfl aF aX rfl (Ho aT)) rfl (W_q (Zf rfl (SlR.ldAggV (aH.ext (Zq.mono _) hS.x) aF aX Zjs Tl aT)) rfl ?_);clear H a;intro a H
    refine Qr H Zex rfl ?_
    clear H;intro cK cL hN bK hs;clear a;intro a H
    replace hS:=hS.newBlk hN bK hs;clear hN hs
    refine Zr H rfl rfl (vs:=[.int .i64 aG.Entry,.int .i64 aG.Prio,.bool aG.Auto]) rfl Tl (hS.blk 0 rfl) rfl (by simp) ?_
    clear H;intro cM hN bL hz;clear a;intro a H;replace hS:=hS.setBlk hN bL;clear hN hz
    refine Ze (Za ?_)
    replace hm:=Zi hm;obtain⟨cN,hm,aI⟩:=hm
    refine Hj (σ:=Bool) H (fun aO=>[(1,.pointer (some ⟨aU,0,none⟩)),(2,.pointer (some ⟨aV,0,none⟩)),(3,.int .i64 ((aA : Nat) : Int)),(55,.bool aO)]) (fun aO wl=>(Zai aA) aO=some bQ ∧ St NB w wl [blkR aU [.int .i64 a0.Id,.bool a0.Mobile,aJ,aK,aL,.int .i64 a0.Events,aM] 27,blkR aV [.int .i64 0,.int .i64 0] 124]) ?_ ?_
    · skip
      refine wp_region_lit (n_q H (Zd rfl Zcc) rfl (W_q (Zf rfl ((hS.blk 0 rfl).ld ag3 rfl)) rfl (W_q (Un rfl rfl) rfl (W_q (Zc rfl) rfl ?_))));clear H a;intro a H
      rcases Bool.eq_false_or_eq_true (decide (aG.Entry < 0)) with aB|aB
      · replace H:=H.know 31 rfl aB
        replace hm:=Zu hm aB
        refine Zci H rfl rfl (by decide) rfl (Qn rfl rfl (by decide) rfl (Qn rfl rfl (by decide) rfl (Qn rfl rfl (by decide) rfl (W_q (Qi rfl rfl) rfl (W_q (Zc rfl) rfl (Qn rfl rfl (by decide) rfl (Qn rfl rfl (by decide) rfl (Qn rfl rfl (by decide) rfl (Qn rfl rfl (by decide) rfl (Qn rfl rfl (by decide) rfl (Qn rfl rfl (by decide) rfl ?_)))))))))));clear H a;intro a H
        refine Zci H rfl rfl (by decide) rfl (W_q (Qi rfl rfl) rfl (W_q (Zc rfl) rfl (Qn rfl rfl (by decide) rfl (Qn rfl rfl (by decide) rfl (Qn rfl rfl (by decide) rfl (W_q (Qi rfl rfl) rfl (W_q (Zc rfl) rfl (Qn rfl rfl (by decide) rfl (Qn rfl rfl (by decide) rfl (Qn rfl rfl (by decide) rfl (W_q (Qi rfl rfl) rfl ?_)))))))))));clear H a;intro a H
        refine Ze (Za ?_)
        obtain rfl:=Option.some.inj hm;replace hm:=aI;try dsimp only at hm
        replace hS:=hS.pk2
        replace hS:=hS.pk2
        replace hS:=hS.tk2
        exact Wh true H ⟨rfl,rfl,rfl,rfl,trivial⟩ ⟨hm,hS⟩
      replace H:=H.know 31 rfl aB
      replace hm:=Zv hm aB
      refine Wb H rfl rfl (n_q H (Zd rfl Zcc) rfl (Xe rfl rfl (W_q (Zf rfl ((hS.blk 0 rfl).ld ag3 rfl)) rfl (Xe rfl rfl (W_q (Zo1 rfl rfl (by decide)) rfl (Xe rfl rfl (W_q (Vo rfl rfl) rfl (W_q (Jf rfl rfl) rfl (W_q (Zc rfl) rfl ?_)))))))));clear H a;intro a H
      rcases Bool.eq_false_or_eq_true (!decide ((Int.tmod aG.Entry 4)=0)) with aC|aC
      · replace H:=H.know 37 rfl aC
        replace hm:=Zu hm aC
        refine Zci H rfl rfl (by decide) rfl (Qn rfl rfl (by decide) rfl (Qn rfl rfl (by decide) rfl (Qn rfl rfl (by decide) rfl (Qn rfl rfl (by decide) rfl (Qn rfl rfl (by decide) rfl (Qn rfl rfl (by decide) rfl (W_q (Qi rfl rfl) rfl (W_q (Zc rfl) rfl (Qn rfl rfl (by decide) rfl (Qn rfl rfl (by decide) rfl (Qn rfl rfl (by decide) rfl ?_)))))))))));clear H a;intro a H
        refine n_q H (Qi rfl rfl) rfl (W_q (Zc rfl) rfl (Qn rfl rfl (by decide) rfl (Qn rfl rfl (by decide) rfl (Qn rfl rfl (by decide) rfl (W_q (Qi rfl rfl) rfl ?_)))));clear H a;intro a H
        refine Ze (Za ?_)
        obtain rfl:=Option.some.inj hm;replace hm:=aI;try dsimp only at hm
        replace hS:=hS.pk2
        replace hS:=hS.pk2
        replace hS:=hS.tk2
        exact Wh true H ⟨rfl,rfl,rfl,rfl,trivial⟩ ⟨hm,hS⟩
      replace H:=H.know 37 rfl aC
      replace hm:=Zv hm aC
      refine Wb H rfl rfl (n_q H (Zd rfl Zcc) rfl (Xe rfl rfl (W_q (Zf rfl ((hS.blk 0 rfl).ld ag3 rfl)) rfl (Xe rfl rfl (W_q (Zd rfl Vs) rfl (Xe rfl rfl (W_q (Zf rfl ((hS.blk 1 rfl).ld Zgt rfl)) rfl (Xe rfl rfl ?_))))))));clear H a;intro a H
      obtain⟨bX,bY,bA,bT,bU⟩:=SlR.formV (aY.ext (Zq.mono _) hS.x)
      refine n_q H (Qf Tryz.underlying22 rfl bA) rfl (Xe rfl rfl (W_q (Zav rfl rfl) rfl (Xe rfl rfl (W_q (Zn5 rfl rfl) rfl (W_q (Jf rfl rfl) rfl (W_q (Zc rfl) rfl ?_))))));clear H a;intro a H
      rcases Bool.eq_false_or_eq_true (decide ((IntKind.i64.wrap (64 * ((a0.Pages.length : Nat) : Int))) ≤ aG.Entry)) with aD|aD
      · replace H:=H.know 46 rfl aD
        replace hm:=Zu hm aD
        refine Zci H rfl rfl (by decide) rfl (Qn rfl rfl (by decide) rfl (Qn rfl rfl (by decide) rfl (W_q (Qi rfl rfl) rfl (W_q (Zc rfl) rfl (Qn rfl rfl (by decide) rfl (Qn rfl rfl (by decide) rfl (Qn rfl rfl (by decide) rfl (W_q (Qi rfl rfl) rfl ?_))))))));clear H a;intro a H
        refine Ze (Za ?_)
        obtain rfl:=Option.some.inj hm;replace hm:=aI;try dsimp only at hm
        replace hS:=hS.pk2
        replace hS:=hS.pk2
        replace hS:=hS.tk2
        exact Wh true H ⟨rfl,rfl,rfl,rfl,trivial⟩ ⟨hm,hS⟩
      replace H:=H.know 46 rfl aD
      replace hm:=Zv hm aD
      refine Wb H rfl rfl (n_q H (Zd rfl Zev) rfl (Xe rfl rfl (W_q (Zf rfl ((hS.blk 0 rfl).ld ag3 rfl)) rfl (Xe rfl rfl (W_q (Un rfl rfl) rfl (W_q (Jf rfl rfl) rfl (W_q (Zc rfl) rfl ?_)))))));clear H a;intro a H
      rcases Bool.eq_false_or_eq_true (decide (aG.Prio < 0)) with aE|aE
      · replace H:=H.know 51 rfl aE
        replace hm:=Zu hm aE
        refine Zci H rfl rfl (by decide) rfl (Qn rfl rfl (by decide) rfl (Qn rfl rfl (by decide) rfl (W_q (Qi rfl rfl) rfl ?_)));clear H a;intro a H
        refine Ze (Za ?_)
        obtain rfl:=Option.some.inj hm;replace hm:=aI;try dsimp only at hm
        replace hS:=hS.pk2
        replace hS:=hS.pk2
        replace hS:=hS.tk2
        exact Wh true H ⟨rfl,rfl,rfl,rfl,trivial⟩ ⟨hm,hS⟩
      replace H:=H.know 51 rfl aE
      replace hm:=Zv hm aE
      refine Wb H rfl rfl (n_q H (Zd rfl Zev) rfl (Xe rfl rfl (W_q (Zf rfl ((hS.blk 0 rfl).ld ag3 rfl)) rfl (Xe rfl rfl (W_q (Hp rfl rfl) rfl (W_q (Jf rfl rfl) rfl ?_))))));clear H a;intro a H
      refine Ze (Za ?_)
      obtain rfl:=Option.some.inj hm;replace hm:=aI;try dsimp only at hm
      replace hS:=hS.pk2
      replace hS:=hS.pk2
      replace hS:=hS.tk2
      exact Wh (decide (255 < aG.Prio)) H ⟨rfl,rfl,rfl,rfl,trivial⟩ ⟨hm,hS⟩
    clear H hS hm a;intro aO a bZ H hR
    simp only [ent,List.map_cons,List.map_nil] at H;(try dsimp only at hR);obtain⟨hm,hS⟩:=hR;try dsimp only [Zai] at hm
    refine Zl H rfl (fun aP=>?_) (fun aP=>?_)
    · replace hm:=Zu hm aP
      refine wp_seq (wp_region_lit (n_q H (Zc rfl) rfl (W_q (Zz (cs:=[.int .i64 4,.int .i64 ((aA : Nat) : Int)]) Ze2 Zmk Zml rfl (by kernel_rfl)) rfl ?_)));clear H a;intro a H
      replace hS:=hS.pk1
      refine Zr H rfl rfl (vs:=[.int .i64 4,.int .i64 ((aA : Nat) : Int)]) rfl Vt (hS.blk 0 rfl) rfl (by simp) ?_
      clear H;intro b7 hN bB hz;clear a;intro a H;replace hS:=hS.setBlk hN bB;clear hN hz
      refine Ze (Za (wp_ret (Zo (Zh (Zh (Zo (Zh ?_)))))))
      obtain rfl:=Option.some.inj hm;have hz : _=aZ:=aS;subst hz;replace hm:=a9;try dsimp only at hm
      obtain rfl:=Option.some.inj hm
      replace hS:=hS.tk1
      refine Ti H (.inr rfl) rfl (vs:=[.agg #[.int .i64 4,.int .i64 ((aA : Nat) : Int)]]) (Qm rfl ((hS.blk 0 rfl).ldAll Zce Vt) Qv) ?_
      replace hS:=hS.tk0
      exact⟨rfl,hS.x⟩
    replace hm:=Zv hm aP
    refine wp_skip (Zm (Za (wp_region_lit (n_q H (Zc rfl) rfl (W_q (Kb (i:=aA) (j:=1) rfl rfl (by omega)) rfl (W_q (Zb rfl) rfl ?_))))));clear H a;intro a H
    refine Ze (Za ?_)
    obtain rfl:=Option.some.inj hm
    exact Vh (bP,aA + 1) H ⟨rfl,rfl,rfl,trivial⟩ ⟨aS,hS⟩ (Nat.lt_succ_self _)
  replace hm:=Zv hm aN
  refine wp_exit (Zn (Zn (Zy ?_)))
  obtain rfl:=Option.some.inj hm;have hz : _=aZ:=aS;subst hz;replace hm:=a9;try dsimp only at hm
  refine Za (wp_seq (wp_region_lit ?_))
  replace hm:=Zi hm;obtain⟨aQ,bC,hm⟩:=hm
  refine Zj H rfl Zp5 (Zaq (A:=A) bC) rfl ?_
  clear H;intro b8 b9 hv;clear a;intro a H;obtain⟨rfl,bD⟩:=hv
  replace hS:=hS.ext bD
  replace hS:=hS.pk1
  refine Zr H rfl rfl (vs:=[.int .i64 aQ.Code,.int .i64 aQ.Place]) rfl Vt (hS.blk 0 rfl) rfl (by simp) ?_
  clear H;intro cA hN bE hz;clear a;intro a H;replace hS:=hS.setBlk hN bE;clear hN hz
  refine Ze (Za (wp_ret ?_))
  obtain rfl:=Option.some.inj hm
  replace hS:=hS.tk1
  refine Ti H (.inr rfl) rfl (vs:=[.agg #[.int .i64 aQ.Code,.int .i64 aQ.Place]]) (Qm rfl ((hS.blk 0 rfl).ldAll Zce Vt) Qv) ?_
  replace hS:=hS.tk0
  exact⟨rfl,hS.x⟩
theorem Zc3 {w : World} {A : Nat → Addr} {a0 : GPortPlan} {r : Int} (hm : Wp a0=some r) :
    Calls Tryz.prog 194 [.agg (Zw a0).toArray].toArray w (Ret fun u w'=>u=.int .i64 r ∧ Ext w w'):=by
  have hS:=St.begin NB w
  unfold Wp at hm
  refine enter Tryz.func194 rfl rfl rfl ?_;intro a H;dsimp only [Qk,Nat.zero_add,Nat.reduceAdd] at H
  refine wp_seq (wp_region_lit (Wt H rfl (cs:=[.int .i64 a0.Kind,.int .i64 a0.Size,.int .i64 a0.Depth,.int .i64 a0.Refresh]) rfl rfl ?_))
  clear H;intro aF aG hN aE hs;clear a;intro a H
  replace hS:=hS.newBlk hN aE hs;clear hN hs
  refine n_q H (Zb rfl) rfl ?_;clear H a;intro a H
  refine Ze (Za (wp_seq (wp_seq (wp_region_lit (n_c H (fun HC=>?_))))));clear H
  refine Tn HC (Zd rfl Tv) rfl (by kernel_rfl) (V_q (Zf rfl ((hS.blk 0 rfl).ld ag3 rfl)) rfl (by kernel_rfl) (V_q (Un rfl rfl) rfl (by kernel_rfl) (V_q (Zc rfl) rfl (by kernel_rfl) (V_g (Zd rfl Tv) (by kernel_rfl) (by kernel_rfl) (by kernel_rfl) (V_g (Zf rfl ((hS.blk 0 rfl).ld ag3 rfl)) (by kernel_rfl) (by kernel_rfl) (by kernel_rfl) (V_g (Hp rfl rfl) (by kernel_rfl) (by kernel_rfl) (by kernel_rfl) (Zet (j:=3) rfl rfl rfl (by kernel_rfl) (by kernel_rfl) ?_)))))));clear HC a;intro a HC
  have H:=HC.has;clear HC
  refine Ze (Za (Zl H rfl (fun aA=>?_) (fun aA=>?_)))
  · replace hm:=Zu hm aA
    refine wp_seq (wp_region_lit (n_q H (Zb rfl) rfl ?_));clear H a;intro a H
    refine Ze (Za (wp_ret (Zh ?_)))
    obtain rfl:=Option.some.inj hm
    replace hS:=hS.tk0
    refine Je H (.inr rfl) rfl rfl ?_
    exact⟨rfl,hS.x⟩
  replace hm:=Zv hm aA
  refine wp_skip (Za (wp_seq (wp_seq (wp_region_lit (n_c H (fun HC=>?_))))));clear H
  refine Tn HC (Zd rfl Zdh) rfl (by kernel_rfl) (V_q (Zf rfl ((hS.blk 0 rfl).ld ag3 rfl)) rfl (by kernel_rfl) (V_q (Un rfl rfl) rfl (by kernel_rfl) (V_q (Zc rfl) rfl (by kernel_rfl) (V_g (Zd rfl Zdh) (by kernel_rfl) (by kernel_rfl) (by kernel_rfl) (V_g (Zf rfl ((hS.blk 0 rfl).ld ag3 rfl)) (by kernel_rfl) (by kernel_rfl) (by kernel_rfl) (V_g (Hp rfl rfl) (by kernel_rfl) (by kernel_rfl) (by kernel_rfl) (Zet (j:=3) rfl rfl rfl (by kernel_rfl) (by kernel_rfl) ?_)))))));clear HC a;intro a HC
  have H:=HC.has;clear HC
  refine Ze (Za (Zl H rfl (fun aB=>?_) (fun aB=>?_)))
  · replace hm:=Zu hm aB
    refine wp_seq (wp_region_lit (n_q H (Zb rfl) rfl ?_));clear H a;intro a H
    refine Ze (Za (wp_ret (Zh ?_)))
    obtain rfl:=Option.some.inj hm
    replace hS:=hS.tk0
    refine Je H (.inr rfl) rfl rfl ?_
    exact⟨rfl,hS.x⟩
  replace hm:=Zv hm aB
  refine wp_skip (Za (wp_seq (wp_region_lit (n_q H (Zd rfl Tv) rfl (W_q (Zf rfl ((hS.blk 0 rfl).ld ag3 rfl)) rfl (W_q (Zn5 rfl rfl) rfl (W_q (Zb rfl) rfl ?_)))))));clear H a;intro a H
  refine Ze (Za (wp_seq (wp_seq (wp_region_lit (n_c H (fun HC=>?_))))));clear H
  refine Tn HC (Zd rfl Zdi) rfl (by kernel_rfl) (V_q (Zf rfl ((hS.blk 0 rfl).ld ag3 rfl)) rfl (by kernel_rfl) (V_q (Un rfl rfl) rfl (by kernel_rfl) (V_q (Zc rfl) rfl (by kernel_rfl) (V_g (Zd rfl Zdi) (by kernel_rfl) (by kernel_rfl) (by kernel_rfl) (V_g (Zf rfl ((hS.blk 0 rfl).ld ag3 rfl)) (by kernel_rfl) (by kernel_rfl) (by kernel_rfl) (V_g (Hp rfl rfl) (by kernel_rfl) (by kernel_rfl) (by kernel_rfl) (Zet (j:=3) rfl rfl rfl (by kernel_rfl) (by kernel_rfl) (V_q (Zc rfl) rfl (by kernel_rfl) (V_g (Zc rfl) (by kernel_rfl) (by kernel_rfl) (by kernel_rfl) (V_g (Zf5 rfl) (by kernel_rfl) (by kernel_rfl) (by kernel_rfl) (V_g (Zc rfl) (by kernel_rfl) (by kernel_rfl) (by kernel_rfl) ?_)))))))))));clear HC a;intro a HC
  refine Zfe HC (Zd rfl Zdi) (by kernel_rfl) (by kernel_rfl) (by kernel_rfl) (V_g (Zf rfl ((hS.blk 0 rfl).ld ag3 rfl)) (by kernel_rfl) (by kernel_rfl) (by kernel_rfl) (V_g (Vo rfl rfl) (by kernel_rfl) (by kernel_rfl) (by kernel_rfl) ?_));clear HC a;intro a HC
  refine Zl8 (j:=11) HC rfl rfl rfl (by kernel_rfl) (by kernel_rfl) (by kernel_rfl) ?_;clear HC a;intro a HC
  refine Zn6 (j:=8) HC rfl rfl rfl (by kernel_rfl) (by kernel_rfl) ?_;clear HC a;intro a HC
  have H:=HC.has;clear HC
  refine Ze (Za (Zl H rfl (fun aC=>?_) (fun aC=>?_)))
  · replace hm:=Zu hm aC
    refine wp_seq (wp_region_lit (n_q H (Zb rfl) rfl ?_));clear H a;intro a H
    refine Ze (Za (wp_ret (Zh ?_)))
    obtain rfl:=Option.some.inj hm
    replace hS:=hS.tk0
    refine Je H (.inr rfl) rfl rfl ?_
    exact⟨rfl,hS.x⟩
  replace hm:=Zv hm aC
  refine wp_skip (Za (wp_seq (wp_seq (wp_region_lit (n_c H (fun HC=>?_))))));clear H
  refine Tn HC (Zd rfl Zew) rfl (by kernel_rfl) (V_q (Zf rfl ((hS.blk 0 rfl).ld ag3 rfl)) rfl (by kernel_rfl) (V_q (Un rfl rfl) rfl (by kernel_rfl) (V_q (Zc rfl) rfl (by kernel_rfl) (V_g (Zd rfl Zew) (by kernel_rfl) (by kernel_rfl) (by kernel_rfl) (V_g (Zf rfl ((hS.blk 0 rfl).ld ag3 rfl)) (by kernel_rfl) (by kernel_rfl) (by kernel_rfl) (V_g (Hp rfl rfl) (by kernel_rfl) (by kernel_rfl) (by kernel_rfl) (Zet (j:=3) rfl rfl rfl (by kernel_rfl) (by kernel_rfl) (V_q (Zc rfl) rfl (by kernel_rfl) (V_g (Zd rfl Tv) (by kernel_rfl) (by kernel_rfl) (by kernel_rfl) (V_g (Zf rfl ((hS.blk 0 rfl).ld ag3 rfl)) (by kernel_rfl) (by kernel_rfl) (by kernel_rfl) (V_g (Vo rfl rfl) (by kernel_rfl) (by kernel_rfl) (by kernel_rfl) ?_)))))))))));clear HC a;intro a HC
  refine Zfe HC (Zc rfl) (by kernel_rfl) (by kernel_rfl) (by kernel_rfl) (V_g (Zd rfl Zew) (by kernel_rfl) (by kernel_rfl) (by kernel_rfl) (V_g (Zf rfl ((hS.blk 0 rfl).ld ag3 rfl)) (by kernel_rfl) (by kernel_rfl) (by kernel_rfl) (V_g (Vo rfl rfl) (by kernel_rfl) (by kernel_rfl) (by kernel_rfl) ?_)));clear HC a;intro a HC
  refine Zl8 (j:=12) HC rfl rfl rfl (by kernel_rfl) (by kernel_rfl) (by kernel_rfl) ?_;clear HC a;intro a HC
  refine Zn6 (j:=8) HC rfl rfl rfl (by kernel_rfl) (by kernel_rfl) ?_;clear HC a;intro a HC
  have H:=HC.has;clear HC
  refine Ze (Za (Zl H rfl (fun aD=>?_) (fun aD=>?_)))
  · replace hm:=Zu hm aD
    refine wp_seq (wp_region_lit (n_q H (Zb rfl) rfl ?_));clear H a;intro a H
    refine Ze (Za (wp_ret (Zh ?_)))
    obtain rfl:=Option.some.inj hm
    replace hS:=hS.tk0
    refine Je H (.inr rfl) rfl rfl ?_
    exact⟨rfl,hS.x⟩
  replace hm:=Zv hm aD
  refine wp_skip (Za (wp_seq (wp_region_lit (n_q H (Zb rfl) rfl ?_))));clear H a;intro a H
  refine Ze (Za (wp_ret ?_))
  obtain rfl:=Option.some.inj hm
  replace hS:=hS.tk0
  refine Je H (.inr rfl) rfl rfl ?_
  exact⟨rfl,hS.x⟩
theorem Zj4 {w : World} {A : Nat → Addr} {cs0 : List Value} {a0 : GPlan} (h0 : Qw w cs0 a0) {r : GR10Err} (hm : Zbm a0=some r) :
    Calls Tryz.prog 121 [.agg cs0.toArray].toArray w (Ret fun u w'=>u=.agg (Za1 r).toArray ∧ Ext w w'):=by
  obtain⟨aI,aJ,aK,aL,rfl,bE,bF,aB,bG⟩:=h0
  have hS:=St.begin NB w
  unfold Zbm at hm
  refine enter Tryz.func121 rfl rfl rfl ?_;intro a H;dsimp only [Qk,Nat.zero_add,Nat.reduceAdd] at H
  refine wp_seq (wp_region_lit (Wt H rfl (cs:=[.int .i64 a0.Id,.bool a0.Mobile,aI,aJ,aK,.int .i64 a0.Events,aL]) rfl rfl ?_))
  clear H;intro aS bN hN aU hs;clear a;intro a H
  replace hS:=hS.newBlk hN aU hs;clear hN hs
  refine Qr H Ze2 rfl ?_
  clear H;intro aT bO hN aV hs;clear a;intro a H
  replace hS:=hS.newBlk hN aV hs;clear hN hs
  refine Ze (Za (wp_seq (wp_seq (wp_region_lit (n_q H (Zd rfl Gp) rfl (W_q (Zf rfl ((hS.blk 1 rfl).ld Zi7 rfl)) rfl ?_))))));clear H a;intro a H
  obtain⟨bP,bQ,aC,bL,bM⟩:=SlR.formV (aB.ext (Zq.mono _) hS.x)
  refine n_q H (Qf Tryz.underlying24 rfl aC) rfl (W_q (Zdn (i:=a0.Ports.length) (j:=8) rfl rfl) rfl ?_);clear H a;intro a H
  refine Ze (Za (Zl H rfl (fun aE=>?_) (fun aE=>?_)))
  · replace hm:=Zu hm aE
    refine wp_seq (wp_region_lit ?_)
    replace hm:=Zi hm;obtain⟨aM,aW,hm⟩:=hm
    refine Zj H rfl Zmm (Te (A:=A) aW) rfl ?_
    clear H;intro bR bS hv;clear a;intro a H;obtain⟨rfl,aX⟩:=hv
    replace hS:=hS.ext aX
    refine Zr H rfl rfl (vs:=[.int .i64 aM.Code,.int .i64 aM.Place]) rfl Vt (hS.blk 0 rfl) rfl (by simp) ?_
    clear H;intro bT hN aY hz;clear a;intro a H;replace hS:=hS.setBlk hN aY;clear hN hz
    refine Ze (Za (wp_ret (Zh ?_)))
    obtain rfl:=Option.some.inj hm
    replace hS:=hS.tk1
    refine Ti H (.inr rfl) rfl (vs:=[.agg #[.int .i64 aM.Code,.int .i64 aM.Place]]) (Qm rfl ((hS.blk 0 rfl).ldAll Zce Vt) Qv) ?_
    replace hS:=hS.tk0
    exact⟨rfl,hS.x⟩
  replace hm:=Zv hm aE
  refine wp_skip (Za (wp_seq (wp_seq (wp_region_lit (n_q H (Zb rfl) rfl ?_)))));clear H a;intro a H
  refine Ze (Za (wp_block ?_))
  replace hS:=hS.pk1
  replace hm:=Zi hm;obtain⟨aP,hm,aQ⟩:=hm;replace hm:=Qg hm;obtain⟨bH,hm⟩:=hm
  refine Jd (σ:=Nat × Nat) (fun (m,aA)=>[(1,.pointer (some ⟨aS,0,none⟩)),(2,.pointer (some ⟨aT,0,none⟩)),(3,.int .i64 ((aA : Nat) : Int))]) (fun (m,aA) wl=>Js (Ux a0) m aA=some aP ∧ St NB w wl [blkR aS [.int .i64 a0.Id,.bool a0.Mobile,aI,aJ,aK,.int .i64 a0.Events,aL] 27,blkR aT [.int .i64 0,.int .i64 0] 124]) (fun (m,aA)=>m) (bH,0) H ⟨rfl,rfl,rfl,trivial⟩ ⟨hm,hS⟩ ?_
  clear H hS hm a;intro xx a bU H hR;obtain⟨m,aA⟩:=xx;simp only [ent,List.map_cons,List.map_nil] at H;(try dsimp only at hR);obtain⟨hm,hS⟩:=hR
  replace hm:=Qa hm;obtain⟨bI,bV,rfl,hm,aF⟩:=hm;try dsimp only [Ux] at hm
  refine wp_seq (wp_seq (wp_region_lit (n_q H (Zc rfl) rfl (W_q (Zd rfl Gp) rfl (W_q (Zf rfl ((hS.blk 0 rfl).ld Zi7 rfl)) rfl (W_q (Qf Tryz.underlying24 rfl aC) rfl (W_q (Xz (i:=aA) (j:=a0.Ports.length) rfl rfl) rfl ?_)))))));clear H a;intro a H
  refine Ze (Za (Zl H rfl (fun aD=>?_) (fun aD=>?_)))
  · replace hm:=Zu hm aD
    have bJ : aA < a0.Ports.length:=of_decide_eq_true aD
    refine wp_skip (Za (wp_seq (wp_block (wp_seq (wp_region_lit (n_q H (Zd rfl Gp) rfl (W_q (Zf rfl ((hS.blk 0 rfl).ld Zi7 rfl)) rfl (W_q (Zc rfl) rfl ?_))))))));clear H a;intro a H
    replace hm:=Zi hm;obtain⟨bW,aG,hm⟩:=hm
    obtain⟨bK,aN⟩:=SlR.adV (aB.ext (Zq.mono _) hS.x) aC aG
    refine n_q H (Jn (i:=aA) Tryz.underlying24 Us rfl aC aN rfl (Ho aG)) rfl (W_q (Zf rfl (SlR.ldAggV (aB.ext (Zq.mono _) hS.x) aC aN Zdq Us aG)) rfl ?_);clear H a;intro a H
    replace hm:=Zi hm;obtain⟨aR,aZ,hm⟩:=hm
    refine Zj H rfl en194 (Zc3 (A:=A) aZ) rfl ?_
    clear H;intro bX bY hv;clear a;intro a H;obtain⟨rfl,a9⟩:=hv
    replace hS:=hS.ext a9
    refine n_q H (Zb rfl) rfl ?_;clear H a;intro a H
    refine Ze (Za (wp_seq (wp_region_lit (n_q H (Zc rfl) rfl (W_q (Vo rfl rfl) rfl ?_)))));clear H a;intro a H
    refine Ze (Za (Zl H rfl (fun aH=>?_) (fun aH=>?_)))
    · replace hm:=Zu hm aH
      refine wp_seq (wp_region_lit (n_q H (Zc rfl) rfl (W_q (Zc rfl) rfl (W_q (Zz (cs:=[.int .i64 aR,.int .i64 ((aA : Nat) : Int)]) Ze2 Zmk Zml rfl (by kernel_rfl)) rfl ?_))));clear H a;intro a H
      replace hS:=hS.pk1
      refine Zr H rfl rfl (vs:=[.int .i64 aR,.int .i64 ((aA : Nat) : Int)]) rfl Vt (hS.blk 0 rfl) rfl (by simp) ?_
      clear H;intro bZ hN bA hz;clear a;intro a H;replace hS:=hS.setBlk hN bA;clear hN hz
      refine Ze (Za (wp_ret (Zo (Zh (Zh (Zo (Zh ?_)))))))
      obtain rfl:=Option.some.inj hm;have hz : _=aP:=aF;subst hz;replace hm:=aQ;try dsimp only at hm
      obtain rfl:=Option.some.inj hm
      replace hS:=hS.tk1
      refine Ti H (.inr rfl) rfl (vs:=[.agg #[.int .i64 aR,.int .i64 ((aA : Nat) : Int)]]) (Qm rfl ((hS.blk 0 rfl).ldAll Zce Vt) Qv) ?_
      replace hS:=hS.tk0
      exact⟨rfl,hS.x⟩
    replace hm:=Zv hm aH
    refine wp_skip (Zm (Za (wp_region_lit (n_q H (Zc rfl) rfl (W_q (Kb (i:=aA) (j:=1) rfl rfl (by omega)) rfl (W_q (Zb rfl) rfl ?_))))));clear H a;intro a H
    refine Ze (Za ?_)
    obtain rfl:=Option.some.inj hm
    exact Vh (bI,aA + 1) H ⟨rfl,rfl,rfl,trivial⟩ ⟨aF,hS⟩ (Nat.lt_succ_self _)
  replace hm:=Zv hm aD
  refine wp_exit (Zn (Zn (Zy ?_)))
  obtain rfl:=Option.some.inj hm;have hz : _=aP:=aF;subst hz;replace hm:=aQ;try dsimp only at hm
  refine Za (wp_seq (wp_region_lit ?_))
  replace hm:=Zi hm;obtain⟨aO,bB,hm⟩:=hm
  refine Zj H rfl Zp5 (Zaq (A:=A) bB) rfl ?_
  clear H;intro b7 b8 hv;clear a;intro a H;obtain⟨rfl,bC⟩:=hv
  replace hS:=hS.ext bC
  replace hS:=hS.pk1
  refine Zr H rfl rfl (vs:=[.int .i64 aO.Code,.int .i64 aO.Place]) rfl Vt (hS.blk 0 rfl) rfl (by simp) ?_
  clear H;intro b9 hN bD hz;clear a;intro a H;replace hS:=hS.setBlk hN bD;clear hN hz
  refine Ze (Za (wp_ret ?_))
  obtain rfl:=Option.some.inj hm
  replace hS:=hS.tk1
  refine Ti H (.inr rfl) rfl (vs:=[.agg #[.int .i64 aO.Code,.int .i64 aO.Place]]) (Qm rfl ((hS.blk 0 rfl).ldAll Zce Vt) Qv) ?_
  replace hS:=hS.tk0
  exact⟨rfl,hS.x⟩
theorem Zip {w : World} {A : Nat → Addr} {cs0 : List Value} {a0 : GPlan} (h0 : Qw w cs0 a0) {r : GR10Err} (hm : Zao a0=some r) :
    Calls Tryz.prog 122 [.agg cs0.toArray].toArray w (Ret fun u w'=>u=.agg (Za1 r).toArray ∧ Ext w w'):=by
  obtain⟨aE,aF,aG,aH,rfl,bN,bO,bP,aB⟩:=h0
  have hS:=St.begin NB w
  unfold Zao at hm
  refine enter Tryz.func122 rfl rfl rfl ?_;intro a H;dsimp only [Qk,Nat.zero_add,Nat.reduceAdd] at H
  refine wp_seq (wp_region_lit (Wt H rfl (cs:=[.int .i64 a0.Id,.bool a0.Mobile,aE,aF,aG,.int .i64 a0.Events,aH]) rfl rfl ?_))
  clear H;intro aT cA hN bD hs;clear a;intro a H
  replace hS:=hS.newBlk hN bD hs;clear hN hs
  refine Qr H Ze2 rfl ?_
  clear H;intro aU cB hN bE hs;clear a;intro a H
  replace hS:=hS.newBlk hN bE hs;clear hN hs
  refine Ze (Za (wp_seq (wp_seq (wp_region_lit (n_c H (fun HC=>?_))))));clear H
  refine Tn HC (Zd rfl Zc2) rfl (by kernel_rfl) (V_q (Zf rfl ((hS.blk 1 rfl).ld ag3 rfl)) rfl (by kernel_rfl) (V_q (Un rfl rfl) rfl (by kernel_rfl) (V_q (Zc rfl) rfl (by kernel_rfl) (V_g (Zd rfl Zc2) (by kernel_rfl) (by kernel_rfl) (by kernel_rfl) (V_g (Zf rfl ((hS.blk 1 rfl).ld ag3 rfl)) (by kernel_rfl) (by kernel_rfl) (by kernel_rfl) (V_g (Hp rfl rfl) (by kernel_rfl) (by kernel_rfl) (by kernel_rfl) (Zet (j:=3) rfl rfl rfl (by kernel_rfl) (by kernel_rfl) ?_)))))));clear HC a;intro a HC
  have H:=HC.has;clear HC
  refine Ze (Za (Zl H rfl (fun aQ=>?_) (fun aQ=>?_)))
  · replace hm:=Zu hm aQ
    refine wp_seq (wp_region_lit ?_)
    replace hm:=Zi hm;obtain⟨aV,bF,hm⟩:=hm
    refine Zj H rfl Zmm (Te (A:=A) bF) rfl ?_
    clear H;intro cC cD hv;clear a;intro a H;obtain⟨rfl,bG⟩:=hv
    replace hS:=hS.ext bG
    refine Zr H rfl rfl (vs:=[.int .i64 aV.Code,.int .i64 aV.Place]) rfl Vt (hS.blk 0 rfl) rfl (by simp) ?_
    clear H;intro cF hN bH hz;clear a;intro a H;replace hS:=hS.setBlk hN bH;clear hN hz
    refine Ze (Za (wp_ret (Zh ?_)))
    obtain rfl:=Option.some.inj hm
    replace hS:=hS.tk1
    refine Ti H (.inr rfl) rfl (vs:=[.agg #[.int .i64 aV.Code,.int .i64 aV.Place]]) (Qm rfl ((hS.blk 0 rfl).ldAll Zce Vt) Qv) ?_
    replace hS:=hS.tk0
    exact⟨rfl,hS.x⟩
  replace hm:=Zv hm aQ
  refine wp_skip (Za (wp_seq (wp_seq (wp_region_lit (n_q H (Zd rfl Gq) rfl (W_q (Zf rfl ((hS.blk 1 rfl).ld Zij rfl)) rfl ?_))))));clear H a;intro a H
  obtain⟨cG,cH,aC,bW,bX⟩:=SlR.formV (aB.ext (Zq.mono _) hS.x)
  refine n_q H (Qf Tryz.underlying25 rfl aC) rfl (W_q (Zdn (i:=a0.Sems.length) (j:=8) rfl rfl) rfl ?_);clear H a;intro a H
  refine Ze (Za (Zl H rfl (fun aR=>?_) (fun aR=>?_)))
  · replace hm:=Zu hm aR
    refine wp_seq (wp_region_lit ?_)
    replace hm:=Zi hm;obtain⟨aW,bI,hm⟩:=hm
    refine Zj H rfl Zmm (Te (A:=A) bI) rfl ?_
    clear H;intro cI cJ hv;clear a;intro a H;obtain⟨rfl,bJ⟩:=hv
    replace hS:=hS.ext bJ
    refine Zr H rfl rfl (vs:=[.int .i64 aW.Code,.int .i64 aW.Place]) rfl Vt (hS.blk 0 rfl) rfl (by simp) ?_
    clear H;intro cK hN bK hz;clear a;intro a H;replace hS:=hS.setBlk hN bK;clear hN hz
    refine Ze (Za (wp_ret (Zh ?_)))
    obtain rfl:=Option.some.inj hm
    replace hS:=hS.tk1
    refine Ti H (.inr rfl) rfl (vs:=[.agg #[.int .i64 aW.Code,.int .i64 aW.Place]]) (Qm rfl ((hS.blk 0 rfl).ldAll Zce Vt) Qv) ?_
    replace hS:=hS.tk0
    exact⟨rfl,hS.x⟩
  replace hm:=Zv hm aR
  refine wp_skip (Za (wp_seq (wp_seq (wp_region_lit (n_q H (Zb rfl) rfl ?_)))));clear H a;intro a H
  refine Ze (Za (wp_block ?_))
  replace hS:=hS.pk1
  replace hm:=Zi hm;obtain⟨aX,hm,aY⟩:=hm;replace hm:=Qg hm;obtain⟨bQ,hm⟩:=hm
  refine Jd (σ:=Nat × Nat) (fun (m,aA)=>[(1,.pointer (some ⟨aT,0,none⟩)),(2,.pointer (some ⟨aU,0,none⟩)),(3,.int .i64 ((aA : Nat) : Int))]) (fun (m,aA) wl=>Js (Wq a0) m aA=some aX ∧ St NB w wl [blkR aT [.int .i64 a0.Id,.bool a0.Mobile,aE,aF,aG,.int .i64 a0.Events,aH] 27,blkR aU [.int .i64 0,.int .i64 0] 124]) (fun (m,aA)=>m) (bQ,0) H ⟨rfl,rfl,rfl,trivial⟩ ⟨hm,hS⟩ ?_
  clear H hS hm a;intro xx a cL H hR;obtain⟨m,aA⟩:=xx;simp only [ent,List.map_cons,List.map_nil] at H;(try dsimp only at hR);obtain⟨hm,hS⟩:=hR
  replace hm:=Qa hm;obtain⟨bR,bS,rfl,hm,aS⟩:=hm;try dsimp only [Wq] at hm
  refine wp_seq (wp_seq (wp_region_lit (n_q H (Zc rfl) rfl (W_q (Zd rfl Gq) rfl (W_q (Zf rfl ((hS.blk 0 rfl).ld Zij rfl)) rfl (W_q (Qf Tryz.underlying25 rfl aC) rfl (W_q (Xz (i:=aA) (j:=a0.Sems.length) rfl rfl) rfl ?_)))))));clear H a;intro a H
  refine Ze (Za (Zl H rfl (fun aI=>?_) (fun aI=>?_)))
  · replace hm:=Zu hm aI
    have bV : aA < a0.Sems.length:=of_decide_eq_true aI
    refine wp_skip (Za (wp_seq (wp_block ?_)))
    replace hm:=Zi hm;obtain⟨cM,hm,aZ⟩:=hm
    refine Hj (σ:=Bool) H (fun aJ=>[(1,.pointer (some ⟨aT,0,none⟩)),(2,.pointer (some ⟨aU,0,none⟩)),(3,.int .i64 ((aA : Nat) : Int)),(38,.bool aJ)]) (fun aJ wl=>(Tt aA) aJ=some bS ∧ St NB w wl [blkR aT [.int .i64 a0.Id,.bool a0.Mobile,aE,aF,aG,.int .i64 a0.Events,aH] 27,blkR aU [.int .i64 0,.int .i64 0] 124]) ?_ ?_
    · skip
      refine wp_region_lit (n_q H (Zd rfl Gq) rfl (W_q (Zf rfl ((hS.blk 0 rfl).ld Zij rfl)) rfl (W_q (Zc rfl) rfl ?_)));clear H a;intro a H
      replace hm:=Zi hm;obtain⟨bL,aK,hm⟩:=hm
      obtain⟨bT,aO⟩:=SlR.adV (aB.ext (Zq.mono _) hS.x) aC aK
      refine n_q H (Jn (i:=aA) Tryz.underlying25 sz3 rfl aC aO rfl (Ho aK)) rfl (W_q (Zf rfl (SlR.ldOneV (aB.ext (Zq.mono _) hS.x) aC aO ag3 aK rfl)) rfl (W_q (Un rfl rfl) rfl (W_q (Zc rfl) rfl ?_)));clear H a;intro a H
      rcases Bool.eq_false_or_eq_true (decide (bL < 0)) with aD|aD
      · replace H:=H.know 31 rfl aD
        replace hm:=Zu hm aD
        refine Zci H rfl rfl (by decide) rfl (Qn rfl rfl (by decide) rfl (Qn rfl rfl (by decide) rfl (Qn rfl rfl (by decide) rfl (Qn rfl rfl (by decide) rfl (Qn rfl rfl (by decide) rfl (W_q (Qi rfl rfl) rfl ?_))))));clear H a;intro a H
        refine Ze (Za ?_)
        obtain rfl:=Option.some.inj hm;replace hm:=aZ;try dsimp only at hm
        exact Wh true H ⟨rfl,rfl,rfl,rfl,trivial⟩ ⟨hm,hS⟩
      replace H:=H.know 31 rfl aD
      replace hm:=Zv hm aD
      refine Wb H rfl rfl (n_q H (Zd rfl Gq) rfl (Xe rfl rfl (W_q (Zf rfl ((hS.blk 0 rfl).ld Zij rfl)) rfl (Xe rfl rfl (W_q (Zc rfl) rfl (Xe rfl rfl ?_))))));clear H a;intro a H
      replace hm:=Zi hm;obtain⟨bM,aL,hm⟩:=hm
      obtain⟨bU,aP⟩:=SlR.adV (aB.ext (Zq.mono _) hS.x) aC aL
      refine n_q H (Jn (i:=aA) Tryz.underlying25 sz3 rfl aC aP rfl (Ho aL)) rfl (Xe rfl rfl (W_q (Zf rfl (SlR.ldOneV (aB.ext (Zq.mono _) hS.x) aC aP ag3 aL rfl)) rfl (Xe rfl rfl (W_q (Hp rfl rfl) rfl (W_q (Jf rfl rfl) rfl ?_)))));clear H a;intro a H
      refine Ze (Za ?_)
      obtain rfl:=Option.some.inj hm;replace hm:=aZ;try dsimp only at hm
      exact Wh (decide (255 < bM)) H ⟨rfl,rfl,rfl,rfl,trivial⟩ ⟨hm,hS⟩
    clear H hS hm a;intro aJ a bY H hR
    simp only [ent,List.map_cons,List.map_nil] at H;(try dsimp only at hR);obtain⟨hm,hS⟩:=hR;try dsimp only [Tt] at hm
    refine Zl H rfl (fun aM=>?_) (fun aM=>?_)
    · replace hm:=Zu hm aM
      refine wp_seq (wp_region_lit (n_q H (Zc rfl) rfl (W_q (Zz (cs:=[.int .i64 4,.int .i64 ((aA : Nat) : Int)]) Ze2 Zmk Zml rfl (by kernel_rfl)) rfl ?_)));clear H a;intro a H
      replace hS:=hS.pk1
      refine Zr H rfl rfl (vs:=[.int .i64 4,.int .i64 ((aA : Nat) : Int)]) rfl Vt (hS.blk 0 rfl) rfl (by simp) ?_
      clear H;intro bZ hN a9 hz;clear a;intro a H;replace hS:=hS.setBlk hN a9;clear hN hz
      refine Ze (Za (wp_ret (Zo (Zh (Zh (Zo (Zh ?_)))))))
      obtain rfl:=Option.some.inj hm;have hz : _=aX:=aS;subst hz;replace hm:=aY;try dsimp only at hm
      obtain rfl:=Option.some.inj hm
      replace hS:=hS.tk1
      refine Ti H (.inr rfl) rfl (vs:=[.agg #[.int .i64 4,.int .i64 ((aA : Nat) : Int)]]) (Qm rfl ((hS.blk 0 rfl).ldAll Zce Vt) Qv) ?_
      replace hS:=hS.tk0
      exact⟨rfl,hS.x⟩
    replace hm:=Zv hm aM
    refine wp_skip (Zm (Za (wp_region_lit (n_q H (Zc rfl) rfl (W_q (Kb (i:=aA) (j:=1) rfl rfl (by omega)) rfl (W_q (Zb rfl) rfl ?_))))));clear H a;intro a H
    refine Ze (Za ?_)
    obtain rfl:=Option.some.inj hm
    exact Vh (bR,aA + 1) H ⟨rfl,rfl,rfl,trivial⟩ ⟨aS,hS⟩ (Nat.lt_succ_self _)
  replace hm:=Zv hm aI
  refine wp_exit (Zn (Zn (Zy ?_)))
  obtain rfl:=Option.some.inj hm;have hz : _=aX:=aS;subst hz;replace hm:=aY;try dsimp only at hm
  refine Za (wp_seq (wp_region_lit ?_))
  replace hm:=Zi hm;obtain⟨aN,bA,hm⟩:=hm
  refine Zj H rfl Zp5 (Zaq (A:=A) bA) rfl ?_
  clear H;intro b7 b8 hv;clear a;intro a H;obtain⟨rfl,bB⟩:=hv
  replace hS:=hS.ext bB
  replace hS:=hS.pk1
  refine Zr H rfl rfl (vs:=[.int .i64 aN.Code,.int .i64 aN.Place]) rfl Vt (hS.blk 0 rfl) rfl (by simp) ?_
  clear H;intro b9 hN bC hz;clear a;intro a H;replace hS:=hS.setBlk hN bC;clear hN hz
  refine Ze (Za (wp_ret ?_))
  obtain rfl:=Option.some.inj hm
  replace hS:=hS.tk1
  refine Ti H (.inr rfl) rfl (vs:=[.agg #[.int .i64 aN.Code,.int .i64 aN.Place]]) (Qm rfl ((hS.blk 0 rfl).ldAll Zce Vt) Qv) ?_
  replace hS:=hS.tk0
  exact⟨rfl,hS.x⟩
theorem Zlc {w : World} {A : Nat → Addr} {a0 : GPortPlan} {r : Int × Int} (hm : Zcu a0=some r) :
    Calls Tryz.prog 195 [.agg (Zw a0).toArray].toArray w (Ret fun u w'=>u=.tuple #[.int .i64 r.1,.int .i64 r.2] ∧ Ext w w'):=by
  have hS:=St.begin NB w
  unfold Zcu at hm
  refine enter Tryz.func195 rfl rfl rfl ?_;intro a H;dsimp only [Qk,Nat.zero_add,Nat.reduceAdd] at H
  refine wp_seq (wp_region_lit (Wt H rfl (cs:=[.int .i64 a0.Kind,.int .i64 a0.Size,.int .i64 a0.Depth,.int .i64 a0.Refresh]) rfl rfl ?_))
  clear H;intro aG aH hN aD hs;clear a;intro a H
  replace hS:=hS.newBlk hN aD hs;clear hN hs
  refine n_q H (Zb rfl) rfl (W_q (Zb rfl) rfl ?_);clear H a;intro a H
  refine Ze (Za (wp_seq (wp_seq (wp_region_lit (n_q H (Zf rfl ((hS.blk 0 rfl).ldAll Zdq Us)) rfl ?_)))));clear H a;intro a H
  replace hm:=Zi hm;obtain⟨aI,aE,hm⟩:=hm
  refine Zj H rfl en194 (Zc3 (A:=A) aE) rfl ?_
  clear H;intro aJ aK hv;clear a;intro a H;obtain⟨rfl,aF⟩:=hv
  replace hS:=hS.ext aF
  refine n_q H (Vo rfl rfl) rfl ?_;clear H a;intro a H
  refine Ze (Za (Zl H rfl (fun aA=>?_) (fun aA=>?_)))
  · replace hm:=Zu hm aA
    refine wp_seq (wp_region_lit (n_q H (Zb rfl) rfl (W_q (Zb rfl) rfl ?_)));clear H a;intro a H
    refine Ze (Za (wp_ret (Zh ?_)))
    obtain rfl:=Option.some.inj hm
    replace hS:=hS.tk0
    refine Zda H (.inr rfl) rfl rfl rfl ?_
    exact⟨rfl,hS.x⟩
  replace hm:=Zv hm aA
  refine wp_skip (Za (wp_seq (wp_seq (wp_region_lit (n_q H (Zd rfl Tv) rfl (W_q (Zf rfl ((hS.blk 0 rfl).ld ag3 rfl)) rfl ?_))))));clear H a;intro a H
  refine Ze (Za (wp_block (wp_seq (wp_region_lit (n_q H (Ky rfl rfl) rfl (W_q (Zb rfl) rfl ?_))))));clear H a;intro a H
  refine Ze (Za (Zl H rfl (fun aB=>?_) (fun aB=>?_)))
  · replace hm:=Zu hm aB
    refine wp_seq (wp_region_lit (n_q H (Zd rfl Zdh) rfl (W_q (Zf rfl ((hS.blk 0 rfl).ld ag3 rfl)) rfl (W_q (Xv rfl rfl) rfl (W_q (Zb rfl) rfl (W_q (Zb rfl) rfl ?_))))));clear H a;intro a H
    refine Ze (Za (wp_ret (Zo (Zh ?_))))
    obtain rfl:=Option.some.inj hm
    replace hS:=hS.tk0
    refine Zda H (.inr rfl) rfl rfl rfl ?_
    exact⟨rfl,hS.x⟩
  replace hm:=Zv hm aB
  refine wp_seq (wp_region_lit (n_q H (Ky rfl rfl) rfl (W_q (Zb rfl) rfl ?_)));clear H a;intro a H
  refine Ze (Za (Zl H rfl (fun aC=>?_) (fun aC=>?_)))
  · replace hm:=Zu hm aC
    refine wp_seq (wp_region_lit (n_q H (Zd rfl Zdi) rfl (W_q (Zf rfl ((hS.blk 0 rfl).ld ag3 rfl)) rfl (W_q (Zd rfl Zdh) rfl (W_q (Zf rfl ((hS.blk 0 rfl).ld ag3 rfl)) rfl (W_q (Xv rfl rfl) rfl (W_q (Zav rfl rfl) rfl (W_q (Xv rfl rfl) rfl (W_q (Zb rfl) rfl (W_q (Zb rfl) rfl ?_))))))))));clear H a;intro a H
    refine Ze (Za (wp_ret (Zo (Zh ?_))))
    obtain rfl:=Option.some.inj hm
    replace hS:=hS.tk0
    refine Zda H (.inr rfl) rfl rfl rfl ?_
    exact⟨rfl,hS.x⟩
  replace hm:=Zv hm aC
  refine wp_skip (Zm (Za (wp_seq (wp_region_lit (n_q H (Zb rfl) rfl (W_q (Zb rfl) rfl ?_))))));clear H a;intro a H
  refine Ze (Za (wp_ret ?_))
  obtain rfl:=Option.some.inj hm
  replace hS:=hS.tk0
  refine Zda H (.inr rfl) rfl rfl rfl ?_
  exact⟨rfl,hS.x⟩
theorem Zj5 {w : World} {A : Nat → Addr} {cs0 : List Value} {a0 : GPlan} (h0 : Qw w cs0 a0) {r : Int} (hm : Zbn a0=some r) :
    Calls Tryz.prog 123 [.agg cs0.toArray].toArray w (Ret fun u w'=>u=.int .i64 r ∧ Ext w w'):=by
  obtain⟨aG,aH,aI,aJ,rfl,aL,aM,aB,aN⟩:=h0
  have hS:=St.begin NB w
  unfold Zbn at hm
  refine enter Tryz.func123 rfl rfl rfl ?_;intro a H;dsimp only [Qk,Nat.zero_add,Nat.reduceAdd] at H
  refine wp_seq (wp_region_lit (Wt H rfl (cs:=[.int .i64 a0.Id,.bool a0.Mobile,aG,aH,aI,.int .i64 a0.Events,aJ]) rfl rfl ?_))
  clear H;intro aP bK hN aR hs;clear a;intro a H
  replace hS:=hS.newBlk hN aR hs;clear hN hs
  refine n_q H (Zb rfl) rfl ?_;clear H a;intro a H
  refine Ze (Za (wp_seq (wp_region_lit (n_q H (Zd rfl Ur) rfl (W_q (Zf rfl ((hS.blk 0 rfl).ld Zii rfl)) rfl ?_)))));clear H a;intro a H
  obtain⟨bL,bM,aS,bC,bD⟩:=SlR.formV (aM.ext (Zq.mono _) hS.x)
  refine n_q H (Qf Tryz.underlying23 rfl aS) rfl (W_q (Zav rfl rfl) rfl (W_q (Xv rfl rfl) rfl (W_q (Zd rfl Vs) rfl (W_q (Zf rfl ((hS.blk 0 rfl).ld Zgt rfl)) rfl ?_))));clear H a;intro a H
  obtain⟨bN,bO,aT,bE,bF⟩:=SlR.formV (aL.ext (Zq.mono _) hS.x)
  refine n_q H (Qf Tryz.underlying22 rfl aT) rfl (W_q (Zav rfl rfl) rfl (W_q (Xv rfl rfl) rfl (W_q (Zd rfl Zc2) rfl (W_q (Zf rfl ((hS.blk 0 rfl).ld ag3 rfl)) rfl (W_q (Xv rfl rfl) rfl (W_q (Zd rfl Gq) rfl (W_q (Zf rfl ((hS.blk 0 rfl).ld Zij rfl)) rfl ?_)))))));clear H a;intro a H
  obtain⟨bP,bQ,aU,bG,bH⟩:=SlR.formV (aN.ext (Zq.mono _) hS.x)
  refine n_q H (Qf Tryz.underlying25 rfl aU) rfl (W_q (Xv rfl rfl) rfl (W_q (Zb rfl) rfl ?_));clear H a;intro a H
  refine Ze (Za (wp_seq (wp_seq (wp_region_lit (n_q H (Zb rfl) rfl ?_)))));clear H a;intro a H
  refine Ze (Za (wp_block ?_))
  replace hm:=Zi hm;obtain⟨aQ,hm,aV⟩:=hm;replace hm:=Qg hm;obtain⟨aY,hm⟩:=hm
  refine Jd (σ:=Nat × Int × Nat) (fun (m,aC,aA)=>[(1,.pointer (some ⟨aP,0,none⟩)),(3,.int .i64 aC),(4,.int .i64 ((aA : Nat) : Int))]) (fun (m,aC,aA) wl=>Js (Uy a0) m (aC,aA)=some aQ ∧ St NB w wl [blkR aP [.int .i64 a0.Id,.bool a0.Mobile,aG,aH,aI,.int .i64 a0.Events,aJ] 27]) (fun (m,aC,aA)=>m) (aY,(IntKind.i64.wrap ((IntKind.i64.wrap ((IntKind.i64.wrap ((IntKind.i64.wrap (58 + (IntKind.i64.wrap (76 * ((a0.Procs.length : Nat) : Int))))) + (IntKind.i64.wrap (68 * ((a0.Pages.length : Nat) : Int))))) + a0.Events)) + ((a0.Sems.length : Nat) : Int))),0) H ⟨rfl,rfl,rfl,trivial⟩ ⟨hm,hS⟩ ?_
  clear H hS hm a;intro xx a bR H hR;obtain⟨m,aC,aA⟩:=xx;simp only [ent,List.map_cons,List.map_nil] at H;(try dsimp only at hR);obtain⟨hm,hS⟩:=hR
  replace hm:=Qa hm;obtain⟨aZ,bS,rfl,hm,aO⟩:=hm;try dsimp only [Uy] at hm
  refine wp_seq (wp_seq (wp_region_lit (n_q H (Zc rfl) rfl (W_q (Zd rfl Gp) rfl (W_q (Zf rfl ((hS.blk 0 rfl).ld Zi7 rfl)) rfl ?_)))));clear H a;intro a H
  obtain⟨bT,bU,aD,bI,bJ⟩:=SlR.formV (aB.ext (Zq.mono _) hS.x)
  refine n_q H (Qf Tryz.underlying24 rfl aD) rfl (W_q (Xz (i:=aA) (j:=a0.Ports.length) rfl rfl) rfl ?_);clear H a;intro a H
  refine Ze (Za (Zl H rfl (fun aE=>?_) (fun aE=>?_)))
  · replace hm:=Zu hm aE
    have bA : aA < a0.Ports.length:=of_decide_eq_true aE
    refine wp_skip (Za (wp_seq (wp_block (wp_seq (wp_region_lit (n_q H (Zd rfl Gp) rfl (W_q (Zf rfl ((hS.blk 0 rfl).ld Zi7 rfl)) rfl (W_q (Zc rfl) rfl ?_))))))));clear H a;intro a H
    replace hm:=Zi hm;obtain⟨bV,aF,hm⟩:=hm
    obtain⟨bB,aK⟩:=SlR.adV (aB.ext (Zq.mono _) hS.x) aD aF
    refine n_q H (Jn (i:=aA) Tryz.underlying24 Us rfl aD aK rfl (Ho aF)) rfl (W_q (Zf rfl (SlR.ldAggV (aB.ext (Zq.mono _) hS.x) aD aK Zdq Us aF)) rfl ?_);clear H a;intro a H
    replace hm:=Zi hm;obtain⟨a9,aW,hm⟩:=hm
    refine Zj H rfl en195 (Zlc (A:=A) aW) rfl ?_
    clear H;intro bW bX hv;clear a;intro a H;obtain⟨rfl,aX⟩:=hv
    replace hS:=hS.ext aX
    refine n_q H (Zc rfl) rfl (W_q (Zk rfl rfl) rfl (W_q (Zk rfl rfl) rfl (W_q (Zb rfl) rfl (W_q (Zb rfl) rfl ?_))));clear H a;intro a H
    refine Ze (Za (wp_region_lit (n_q H (Zc rfl) rfl (W_q (Zc rfl) rfl (W_q (Xv rfl rfl) rfl (W_q (Xv rfl rfl) rfl (W_q (Zb rfl) rfl ?_)))))));clear H a;intro a H
    refine Ze (Zm (Za (wp_region_lit (n_q H (Zc rfl) rfl (W_q (Kb (i:=aA) (j:=1) rfl rfl (by omega)) rfl (W_q (Zb rfl) rfl ?_))))));clear H a;intro a H
    refine Ze (Za ?_)
    obtain rfl:=Option.some.inj hm
    exact Vh (aZ,(IntKind.i64.wrap (aC + (IntKind.i64.wrap (3 + a9.1)))),aA + 1) H ⟨rfl,rfl,rfl,trivial⟩ ⟨aO,hS⟩ (Nat.lt_succ_self _)
  replace hm:=Zv hm aE
  refine wp_exit (Zn (Zn (Zy ?_)))
  obtain rfl:=Option.some.inj hm;have hz : _=aQ:=aO;subst hz;replace hm:=aV;try dsimp only at hm
  refine Za (wp_seq (wp_region_lit (n_q H (Zc rfl) rfl (W_q (Zb rfl) rfl ?_))));clear H a;intro a H
  refine Ze (Za (wp_ret ?_))
  obtain rfl:=Option.some.inj hm
  replace hS:=hS.tk0
  refine Je H (.inr rfl) rfl rfl ?_
  exact⟨rfl,hS.x⟩
theorem Zj6 {w : World} {A : Nat → Addr} {cs0 : List Value} {a0 : GPlan} (h0 : Qw w cs0 a0) {r : GR10Err} (hm : Zbo a0=some r) :
    Calls Tryz.prog 52 [.agg cs0.toArray].toArray w (Ret fun u w'=>u=.agg (Za1 r).toArray ∧ Ext w w'):=by
  obtain⟨aA,aB,aC,aD,rfl,aE,aF,aG,aH⟩:=h0
  have hS:=St.begin NB w
  unfold Zbo at hm
  refine enter Tryz.func52 rfl rfl rfl ?_;intro a H;dsimp only [Qk,Nat.zero_add,Nat.reduceAdd] at H
  refine wp_seq (wp_region_lit (Wt H rfl (cs:=[.int .i64 a0.Id,.bool a0.Mobile,aA,aB,aC,.int .i64 a0.Events,aD]) rfl rfl ?_))
  clear H;intro bL cN hN bO hs;clear a;intro a H
  replace hS:=hS.newBlk hN bO hs;clear hN hs
  refine Qr H Ze2 rfl ?_
  clear H;intro bM bN hN bP hs;clear a;intro a H
  replace hS:=hS.newBlk hN bP hs;clear hN hs
  refine Ze (Za (wp_seq (wp_seq (wp_region_lit (n_c H (fun HC=>?_))))));clear H
  refine Tn HC (Zd rfl Zeh) rfl (by kernel_rfl) (V_q (Zf rfl ((hS.blk 1 rfl).ld ag3 rfl)) rfl (by kernel_rfl) (V_q (Un rfl rfl) rfl (by kernel_rfl) (V_q (Zc rfl) rfl (by kernel_rfl) (V_g (Zd rfl Zeh) (by kernel_rfl) (by kernel_rfl) (by kernel_rfl) (V_g (Zf rfl ((hS.blk 1 rfl).ld ag3 rfl)) (by kernel_rfl) (by kernel_rfl) (by kernel_rfl) (V_g (Hp rfl rfl) (by kernel_rfl) (by kernel_rfl) (by kernel_rfl) (Zet (j:=3) rfl rfl rfl (by kernel_rfl) (by kernel_rfl) ?_)))))));clear HC a;intro a HC
  have H:=HC.has;clear HC
  refine Ze (Za (Zl H rfl (fun aQ=>?_) (fun aQ=>?_)))
  · replace hm:=Zu hm aQ
    refine wp_seq (wp_region_lit ?_)
    replace hm:=Zi hm;obtain⟨aX,bQ,hm⟩:=hm
    refine Zj H rfl Zmm (Te (A:=A) bQ) rfl ?_
    clear H;intro cO cP hv;clear a;intro a H;obtain⟨rfl,bR⟩:=hv
    replace hS:=hS.ext bR
    refine Zr H rfl rfl (vs:=[.int .i64 aX.Code,.int .i64 aX.Place]) rfl Vt (hS.blk 0 rfl) rfl (by simp) ?_
    clear H;intro cQ hN bS hz;clear a;intro a H;replace hS:=hS.setBlk hN bS;clear hN hz
    refine Ze (Za (wp_ret (Zh ?_)))
    obtain rfl:=Option.some.inj hm
    replace hS:=hS.tk1
    refine Ti H (.inr rfl) rfl (vs:=[.agg #[.int .i64 aX.Code,.int .i64 aX.Place]]) (Qm rfl ((hS.blk 0 rfl).ldAll Zce Vt) Qv) ?_
    replace hS:=hS.tk0
    exact⟨rfl,hS.x⟩
  replace hm:=Zv hm aQ
  refine wp_skip (Za (wp_seq (Gi [] 10 (by kernel_rfl) ?_)))
  obtain⟨bC,aR⟩ : ∃ x,x=bN.drew:=⟨_,rfl⟩;rw [← aR];have bT : Ext bN bC:=by rw [aR];exact Ext.drew' _
  clear aR
  replace hS:=hS.ext bT
  have aO:=hS
  have hW:=Nat.le_refl bC.heap.size
  refine Xo 0 H rfl (Zf rfl (LdC.old ((aO.blk 1 rfl).ldAll Zap Ut) Ext.rfl' (Nat.le_refl _) (by simp))) rfl (by kernel_rfl) (by kernel_rfl) (by kernel_rfl) (by kernel_rfl) (fun _ _ _ h=>h) ?_;clear H a;intro a H
  refine Xo 2 H rfl (Zf rfl (LdC.old ((aO.blk 1 rfl).ldAll Zap Ut) Ext.rfl' (Nat.le_refl _) (by simp))) rfl (by kernel_rfl) (by kernel_rfl) (by kernel_rfl) (by kernel_rfl) (fun _ _ _ h=>h) ?_;clear H a;intro a H
  refine Xo 4 H rfl (Zf rfl (LdC.old ((aO.blk 1 rfl).ldAll Zap Ut) Ext.rfl' (Nat.le_refl _) (by simp))) rfl (by kernel_rfl) (by kernel_rfl) (by kernel_rfl) (by kernel_rfl) (fun _ _ _ h=>h) ?_;clear H a;intro a H
  refine Xo 6 H rfl (Zf rfl (LdC.old ((aO.blk 1 rfl).ldAll Zap Ut) Ext.rfl' (Nat.le_refl _) (by simp))) rfl (by kernel_rfl) (by kernel_rfl) (by kernel_rfl) (by kernel_rfl) (fun _ _ _ h=>h) ?_;clear H a;intro a H
  replace hm:=Zi hm;obtain⟨aK,bU,hm⟩:=hm
  refine Xu 1 (by kernel_rfl) ?_
  refine Xy 1 H rfl rfl en119 (Zj2 (A:=A) (⟨_,_,_,_,rfl,(aE.ext (Zq.mono _) hS.x),(aF.ext (Zq.mono _) hS.x),(aG.ext (Zq.mono _) hS.x),(aH.ext (Zq.mono _) hS.x)⟩ : Qw _ [.int .i64 a0.Id,.bool a0.Mobile,aA,aB,aC,.int .i64 a0.Events,aD] a0) bU) rfl (fun v w hv=>.inl (ChgF.of_ext (by obtain⟨_,hE0⟩:=hv;exact hE0))) ?_
  clear H;intro cR cT hv;clear a;intro a H;obtain⟨rfl,bD⟩:=hv
  replace hS:=hS.ext bD
  replace hW:=Nat.le_trans hW bD.size
  replace hm:=Zi hm;obtain⟨aL,bV,hm⟩:=hm
  refine Xu 3 (by kernel_rfl) ?_
  refine Xy 3 H rfl rfl en120 (Zj3 (A:=A) (⟨_,_,_,_,rfl,(aE.ext (Zq.mono _) hS.x),(aF.ext (Zq.mono _) hS.x),(aG.ext (Zq.mono _) hS.x),(aH.ext (Zq.mono _) hS.x)⟩ : Qw _ [.int .i64 a0.Id,.bool a0.Mobile,aA,aB,aC,.int .i64 a0.Events,aD] a0) bV) rfl (fun v w hv=>.inl (ChgF.of_ext (by obtain⟨_,hE0⟩:=hv;exact hE0))) ?_
  clear H;intro cU cV hv;clear a;intro a H;obtain⟨rfl,bE⟩:=hv
  replace hS:=hS.ext bE
  replace hW:=Nat.le_trans hW bE.size
  replace hm:=Zi hm;obtain⟨aM,bW,hm⟩:=hm
  refine Xu 5 (by kernel_rfl) ?_
  refine Xy 5 H rfl rfl en121 (Zj4 (A:=A) (⟨_,_,_,_,rfl,(aE.ext (Zq.mono _) hS.x),(aF.ext (Zq.mono _) hS.x),(aG.ext (Zq.mono _) hS.x),(aH.ext (Zq.mono _) hS.x)⟩ : Qw _ [.int .i64 a0.Id,.bool a0.Mobile,aA,aB,aC,.int .i64 a0.Events,aD] a0) bW) rfl (fun v w hv=>.inl (ChgF.of_ext (by obtain⟨_,hE0⟩:=hv;exact hE0))) ?_
  clear H;intro cW cX hv;clear a;intro a H;obtain⟨rfl,bF⟩:=hv
  replace hS:=hS.ext bF
  replace hW:=Nat.le_trans hW bF.size
  replace hm:=Zi hm;obtain⟨aN,bX,hm⟩:=hm
  refine Xu 7 (by kernel_rfl) ?_
  refine Xy 7 H rfl rfl en122 (Zip (A:=A) (⟨_,_,_,_,rfl,(aE.ext (Zq.mono _) hS.x),(aF.ext (Zq.mono _) hS.x),(aG.ext (Zq.mono _) hS.x),(aH.ext (Zq.mono _) hS.x)⟩ : Qw _ [.int .i64 a0.Id,.bool a0.Mobile,aA,aB,aC,.int .i64 a0.Events,aD] a0) bX) rfl (fun v w hv=>.inl (ChgF.of_ext (by obtain⟨_,hE0⟩:=hv;exact hE0))) ?_
  clear H;intro cY cZ hv;clear a;intro a H;obtain⟨rfl,bG⟩:=hv
  replace hS:=hS.ext bG
  replace hW:=Nat.le_trans hW bG.size
  refine Ki 8 H rfl Tryz.underlying201 Vt Ze2 rfl rfl rfl (cs:=[.int .i64 aK.Code,.int .i64 aK.Place,.int .i64 aL.Code,.int .i64 aL.Place,.int .i64 aM.Code,.int .i64 aM.Place,.int .i64 aN.Code,.int .i64 aN.Place]) (by kernel_rfl) rfl (by kernel_rfl) ?_
  clear H;intro bH dA hN bI hs;clear a;intro a H
  have cF : bC.heap.size ≤ bH:=hs ▸ hW
  replace hS:=hS.newBlk hN bI hs;clear hN hs
  replace hW:=Nat.le_trans hW bI.size
  replace hS:=hS.blkOwnL (e:=Za1) (k:=2) [aK,aL,aM,aN] rfl rfl (by simp [maxLen])
  refine Zg 9 H rfl (Zb rfl) rfl (by kernel_rfl) (by kernel_rfl) (by kernel_rfl) (by kernel_rfl) (fun _ _ _ h=>h) ?_;clear H a;intro a H
  refine Qx (by kernel_rfl) ?_
  refine Za (wp_seq (wp_seq (wp_region_lit (n_q H (Zb rfl) rfl ?_))));clear H a;intro a H
  refine Ze (Za (wp_block ?_))
  replace hS:=hS.pk1
  replace hS:=hS.pk2
  replace hS:=hS.pk2
  replace hm:=Zi hm;obtain⟨bJ,hm,bK⟩:=hm;replace hm:=Qg hm;obtain⟨cG,hm⟩:=hm
  refine Jd (σ:=Nat × Nat) (fun (m,aI)=>[(1,.pointer (some ⟨bL,0,none⟩)),(2,.pointer (some ⟨bM,0,none⟩)),(3,.slice (some ⟨bH,0,none⟩) 4 4),(4,.int .i64 ((aI : Nat) : Int))]) (fun (m,aI) wl=>Js (Vz aK aL aM aN) m aI=some bJ ∧ St NB w wl [ownR 124 2 (.slice (some ⟨bH,0,none⟩) 4 4) [aK,aL,aM,aN].length ([aK,aL,aM,aN].flatMap Za1),blkR bL [.int .i64 a0.Id,.bool a0.Mobile,aA,aB,aC,.int .i64 a0.Events,aD] 27,blkR bM [.int .i64 0,.int .i64 0] 124]) (fun (m,aI)=>m) (cG,0) H ⟨rfl,rfl,rfl,rfl,trivial⟩ ⟨hm,hS⟩ ?_
  clear H hS hm a;intro xx a dB H hR;obtain⟨m,aI⟩:=xx;simp only [ent,List.map_cons,List.map_nil] at H;(try dsimp only at hR);obtain⟨hm,hS⟩:=hR
  replace hm:=Qa hm;obtain⟨cH,dC,rfl,hm,aS⟩:=hm;try dsimp only [Vz] at hm
  refine wp_seq (wp_seq (wp_region_lit (n_q H (Zc rfl) rfl (W_q (Zc rfl) rfl ?_))));clear H a;intro a H
  obtain⟨dD,dE,aJ,cL,cM⟩:=SlR.formV ((hS.own 0 rfl).slr rfl (fun _ _=>rfl))
  refine n_q H (Qf Tryz.underlying201 rfl aJ) rfl (W_q (Xz (i:=aI) (j:=([aK,aL,aM,aN].length)) rfl rfl) rfl ?_);clear H a;intro a H
  refine Ze (Za (Zl H rfl (fun aP=>?_) (fun aP=>?_)))
  · replace hm:=Zu hm aP
    have cI : aI < [aK,aL,aM,aN].length:=of_decide_eq_true aP
    refine wp_skip (Za (wp_seq (wp_block (wp_seq (wp_region_lit (n_q H (Zc rfl) rfl (W_q (Zc rfl) rfl ?_)))))));clear H a;intro a H
    replace hm:=Zi hm;obtain⟨dF,aT,hm⟩:=hm
    obtain⟨cJ,aY⟩:=SlR.adV ((hS.own 0 rfl).slr rfl (fun _ _=>rfl)) aJ aT
    refine n_q H (Jn (i:=aI) Tryz.underlying201 Vt rfl aJ aY rfl (Ho aT)) rfl (W_q (Xt rfl Zuh) rfl (W_q (Zf rfl (SlR.ldCellV (j:=0) ((hS.own 0 rfl).slr rfl (fun _ _=>rfl)) aJ aY ag3 aT rfl)) rfl (W_q (Vo rfl rfl) rfl ?_)));clear H a;intro a H
    refine Ze (Za (Zl H rfl (fun aU=>?_) (fun aU=>?_)))
    · replace hm:=Zu hm aU
      refine wp_seq (wp_region_lit (n_q H (Zc rfl) rfl (W_q (Zc rfl) rfl ?_)));clear H a;intro a H
      replace hm:=Zi hm;obtain⟨aZ,aV,hm⟩:=hm
      obtain⟨cK,a9⟩:=SlR.adV ((hS.own 0 rfl).slr rfl (fun _ _=>rfl)) aJ aV
      refine n_q H (Jn (i:=aI) Tryz.underlying201 Vt rfl aJ a9 rfl (Ho aV)) rfl (W_q (Zf rfl (SlR.ldAggV ((hS.own 0 rfl).slr rfl (fun _ _=>rfl)) aJ a9 Zce Vt aV)) rfl ?_);clear H a;intro a H
      replace hS:=hS.pk2
      refine Zr H rfl rfl (vs:=[.int .i64 aZ.Code,.int .i64 aZ.Place]) rfl Vt (hS.blk 0 rfl) rfl (by simp) ?_
      clear H;intro dG hN bY hz;clear a;intro a H;replace hS:=hS.setBlk hN bY;clear hN hz
      refine Ze (Za (wp_ret (Zo (Zh (Zh (Zo (Zh ?_)))))))
      obtain rfl:=Option.some.inj hm;have hz : _=bJ:=aS;subst hz;replace hm:=bK;try dsimp only at hm
      obtain rfl:=Option.some.inj hm
      replace hS:=hS.tk1
      refine Ti H (.inr rfl) rfl (vs:=[.agg #[.int .i64 aZ.Code,.int .i64 aZ.Place]]) (Qm rfl ((hS.blk 0 rfl).ldAll Zce Vt) Qv) ?_
      replace hS:=hS.tk0
      exact⟨rfl,hS.x⟩
    replace hm:=Zv hm aU
    refine wp_skip (Zm (Za (wp_region_lit (n_q H (Zc rfl) rfl (W_q (Kb (i:=aI) (j:=1) rfl rfl (by omega)) rfl (W_q (Zb rfl) rfl ?_))))));clear H a;intro a H
    refine Ze (Za ?_)
    obtain rfl:=Option.some.inj hm
    exact Vh (cH,aI + 1) H ⟨rfl,rfl,rfl,rfl,trivial⟩ ⟨aS,hS⟩ (Nat.lt_succ_self _)
  replace hm:=Zv hm aP
  refine wp_exit (Zn (Zn (Zy ?_)))
  obtain rfl:=Option.some.inj hm;have hz : _=bJ:=aS;subst hz;replace hm:=bK;try dsimp only at hm
  refine Za (wp_seq (wp_seq (wp_region_lit (n_q H (Zf rfl ((hS.blk 1 rfl).ldAll Zap Ut)) rfl ?_))));clear H a;intro a H
  replace hm:=Zi hm;obtain⟨dH,bZ,hm⟩:=hm
  refine Zj H rfl en123 (Zj5 (A:=A) (⟨_,_,_,_,rfl,(aE.ext (Zq.mono _) hS.x),(aF.ext (Zq.mono _) hS.x),(aG.ext (Zq.mono _) hS.x),(aH.ext (Zq.mono _) hS.x)⟩ : Qw _ [.int .i64 a0.Id,.bool a0.Mobile,aA,aB,aC,.int .i64 a0.Events,aD] a0) bZ) rfl ?_
  clear H;intro dI dJ hv;clear a;intro a H;obtain⟨rfl,b7⟩:=hv
  replace hS:=hS.ext b7
  refine n_q H (Hp rfl rfl) rfl ?_;clear H a;intro a H
  refine Ze (Za (Zl H rfl (fun aW=>?_) (fun aW=>?_)))
  · replace hm:=Zu hm aW
    refine wp_seq (wp_region_lit ?_)
    replace hm:=Zi hm;obtain⟨bA,b8,hm⟩:=hm
    refine Zj H rfl Zmm (Te (A:=A) b8) rfl ?_
    clear H;intro dK dL hv;clear a;intro a H;obtain⟨rfl,b9⟩:=hv
    replace hS:=hS.ext b9
    replace hS:=hS.pk2
    refine Zr H rfl rfl (vs:=[.int .i64 bA.Code,.int .i64 bA.Place]) rfl Vt (hS.blk 0 rfl) rfl (by simp) ?_
    clear H;intro dM hN cA hz;clear a;intro a H;replace hS:=hS.setBlk hN cA;clear hN hz
    refine Ze (Za (wp_ret (Zh ?_)))
    obtain rfl:=Option.some.inj hm
    replace hS:=hS.tk1
    refine Ti H (.inr rfl) rfl (vs:=[.agg #[.int .i64 bA.Code,.int .i64 bA.Place]]) (Qm rfl ((hS.blk 0 rfl).ldAll Zce Vt) Qv) ?_
    replace hS:=hS.tk0
    exact⟨rfl,hS.x⟩
  replace hm:=Zv hm aW
  refine wp_skip (Za (wp_seq (wp_region_lit ?_)))
  replace hm:=Zi hm;obtain⟨bB,cB,hm⟩:=hm
  refine Zj H rfl Zp5 (Zaq (A:=A) cB) rfl ?_
  clear H;intro dN dO hv;clear a;intro a H;obtain⟨rfl,cC⟩:=hv
  replace hS:=hS.ext cC
  replace hS:=hS.pk2
  refine Zr H rfl rfl (vs:=[.int .i64 bB.Code,.int .i64 bB.Place]) rfl Vt (hS.blk 0 rfl) rfl (by simp) ?_
  clear H;intro dP hN cD hz;clear a;intro a H;replace hS:=hS.setBlk hN cD;clear hN hz
  refine Ze (Za (wp_ret ?_))
  obtain rfl:=Option.some.inj hm
  replace hS:=hS.tk1
  refine Ti H (.inr rfl) rfl (vs:=[.agg #[.int .i64 bB.Code,.int .i64 bB.Place]]) (Qm rfl ((hS.blk 0 rfl).ldAll Zce Vt) Qv) ?_
  replace hS:=hS.tk0
  exact⟨rfl,hS.x⟩
end Go.Proofs.YtfemfiiagjnhdaaGreatDoor
