/- Part of a claim, shortened by a program from its texts: PtF1. -/
import Derived.Test.YtfemfiiagjnhdaaGreatDoorQfG
set_option linter.unusedVariables false
set_option linter.unusedSimpArgs false
set_option maxRecDepth 10000
namespace Go.Proofs.YtfemfiiagjnhdaaGreatDoor
open Go Go.RowKit
theorem Zmx : Za4 Tryz.prog 152=some false:=by kernel_rfl
theorem Zt3 : Za4 Tryz.prog 154=some true:=by kernel_rfl
theorem Zt4 : Za4 Tryz.prog 163=some true:=by kernel_rfl
theorem ag217 : Za4 Tryz.prog 217=some true:=by kernel_rfl
theorem Ze3 : Za4 Tryz.prog 219=some true:=by kernel_rfl
theorem ag29 : Za4 Tryz.prog 29=some false:=by kernel_rfl
theorem ag30 : Za4 Tryz.prog 30=some false:=by kernel_rfl
theorem ag31 : Za4 Tryz.prog 31=some false:=by kernel_rfl
theorem en131 : Zq Tryz.prog 131=true:=by kernel_rfl
theorem en132 : Zq Tryz.prog 132=true:=by kernel_rfl
theorem en133 : Zq Tryz.prog 133=true:=by kernel_rfl
theorem en134 : Zq Tryz.prog 134=true:=by kernel_rfl
theorem Zj5 : Zq Tryz.prog 138=true:=by kernel_rfl
theorem Zlc : Zq Tryz.prog 206=true:=by kernel_rfl
theorem Zon : Zq Tryz.prog 207=true:=by kernel_rfl
theorem en208 : Zq Tryz.prog 208=true:=by kernel_rfl
theorem en209 : Zq Tryz.prog 209=true:=by kernel_rfl
theorem en210 : Zq Tryz.prog 210=true:=by kernel_rfl
theorem en211 : Zq Tryz.prog 211=true:=by kernel_rfl
theorem en212 : Zq Tryz.prog 212=true:=by kernel_rfl
theorem en213 : Zq Tryz.prog 213=true:=by kernel_rfl
theorem en214 : Zq Tryz.prog 214=true:=by kernel_rfl
theorem en215 : Zq Tryz.prog 215=true:=by kernel_rfl
theorem Zt5 : Zq Tryz.prog 216=true:=by kernel_rfl
theorem en217 : Zq Tryz.prog 217=true:=by kernel_rfl
theorem en218 : Zq Tryz.prog 218=true:=by kernel_rfl
theorem en219 : Zq Tryz.prog 219=true:=by kernel_rfl
theorem en220 : Zq Tryz.prog 220=true:=by kernel_rfl
theorem en221 : Zq Tryz.prog 221=true:=by kernel_rfl
theorem en222 : Zq Tryz.prog 222=true:=by kernel_rfl
theorem Zj6 : Zq Tryz.prog 223=true:=by kernel_rfl
theorem en224 : Zq Tryz.prog 224=true:=by kernel_rfl
theorem en225 : Zq Tryz.prog 225=true:=by kernel_rfl
theorem en226 : Zq Tryz.prog 226=true:=by kernel_rfl
theorem en227 : Zq Tryz.prog 227=true:=by kernel_rfl
theorem en246 : Zq Tryz.prog 246=true:=by kernel_rfl
theorem en247 : Zq Tryz.prog 247=true:=by kernel_rfl
theorem Zt6 : Zaw Tryz.prog 144 0=some 0:=by kernel_rfl
theorem Zp7 : Zaw Tryz.prog 144 3=some 18:=by kernel_rfl
theorem Ze4 : Zaw Tryz.prog 144 4=some 19:=by kernel_rfl
theorem Zad : Zaw Tryz.prog 144 5=some 20:=by kernel_rfl
theorem Ze5 : Zaw Tryz.prog 154 0=some 0:=by kernel_rfl
theorem Zmy : Zaw Tryz.prog 154 1=some 1:=by kernel_rfl
theorem Zdv : Zaw Tryz.prog 163 0=some 0:=by kernel_rfl
theorem Zhw : Zaw Tryz.prog 163 1=some 1:=by kernel_rfl
theorem Zaz : Zaw Tryz.prog 219 0=some 0:=by kernel_rfl
theorem Gj : Zaw Tryz.prog 219 1=some 7:=by kernel_rfl
theorem Zs2 : Zaw Tryz.prog 34 0=some 0:=by kernel_rfl
theorem Zs3 : Zaw Tryz.prog 34 1=some 1:=by kernel_rfl
theorem Zs4 : Zaw Tryz.prog 34 2=some 2:=by kernel_rfl
theorem Zld : Zaw Tryz.prog 34 5=some 5:=by kernel_rfl
theorem Zle : Zaw Tryz.prog 34 6=some 6:=by kernel_rfl
theorem Zi9 : Zaw Tryz.prog 34 7=some 7:=by kernel_rfl
theorem Zhx : Zaw Tryz.prog 34 8=some 8:=by kernel_rfl
theorem fo82_0 : Zaw Tryz.prog 82 0=some 0:=by kernel_rfl
theorem Zhy : Jd Tryz.prog 154=some 2:=by kernel_rfl
theorem Zim : Jd Tryz.prog 163=some 2:=by kernel_rfl
theorem sz217 : Jd Tryz.prog 217=some 17:=by kernel_rfl
theorem Ze6 : Jd Tryz.prog 219=some 17:=by kernel_rfl
theorem sz9 : Jd Tryz.prog 9=some 1:=by kernel_rfl
theorem Zoo : Hb Tryz.prog 154=some [.slice none 0 0,.int .i64 0]:=by kernel_rfl
theorem Zrs : Hb Tryz.prog 163=some [.int .i64 0,.int .i64 0]:=by kernel_rfl
theorem ze217 : Hb Tryz.prog 217=some [.bool false,.bool false,.bool false,.bool false,.bool false,.bool false,.bool false,.bool false,.bool false,.bool false,.bool false,.bool false,.bool false,.bool false,.bool false,.bool false,.bool false]:=by kernel_rfl
theorem Zb7 {w : World} {A : Nat → Addr} {v0 : Value} {a0 : List GPagePlan} {v1 : Value} {a1 : List GPagePlan} (h0 : SlR w 2 (Zi Zw) v0 a0) (h1 : SlR w 2 (Zi Zw) v1 a1) {r : Bool} (hm : Jh a0 a1=some r) :
    Calls Tryz.prog 131 [v0,v1].toArray w (Ret fun u w'=>u=.bool r ∧ Ext w w'):=by
  have hS:=St.begin NB w
  unfold Jh at hm
  refine enter Tryz.func131 rfl rfl rfl ?_;intro a H;dsimp only [Qn,Nat.zero_add,Nat.reduceAdd] at H
  refine wp_seq (wp_region_lit (n_q H (Zb rfl) rfl ?_));clear H a;intro a H
  refine Ze (Za (wp_seq (wp_seq (wp_region_lit (n_q H (Zd rfl) rfl ?_)))));clear H a;intro a H
  obtain⟨aZ,a9,aB,aV,aW⟩:=SlR.formV (h0.ext (Zi.mono _) hS.x)
  refine n_q H (Qc Tryz.underlying22 rfl aB) rfl (W_q (Zd rfl) rfl ?_);clear H a;intro a H
  obtain⟨bA,bB,aC,aX,aY⟩:=SlR.formV (h1.ext (Zi.mono _) hS.x)
  refine n_q H (Qc Tryz.underlying22 rfl aC) rfl (W_q (Zel (i:=a0.length) (j:=a1.length) rfl rfl) rfl ?_);clear H a;intro a H
  refine Ze (Za (Zn H rfl (fun aE=>?_) (fun aE=>?_)))
  · replace hm:=Zu hm aE
    refine wp_seq (wp_region_lit (n_q H (Zb rfl) rfl ?_));clear H a;intro a H
    refine Ze (Za (wp_ret (Zh ?_)))
    obtain rfl:=Option.some.inj hm
    refine Qx H (.inr rfl) rfl rfl ?_
    exact⟨rfl,hS.x⟩
  replace hm:=Zv hm aE
  refine wp_skip (Za (wp_seq (wp_seq (wp_region_lit (n_q H (Zd rfl) rfl (W_q (Qc Tryz.underlying22 rfl aB) rfl (W_q (Zd rfl) rfl ?_)))))));clear H a;intro a H
  refine Ze (Za (wp_block ?_))
  replace hm:=Zj hm;obtain⟨aL,hm,aM⟩:=hm;replace hm:=Ql hm;obtain⟨aO,hm⟩:=hm
  refine Kr (σ:=Nat × Nat) (fun (m,aA)=>[(0,v0),(1,v1),(12,.int .i64 ((a0.length : Nat) : Int)),(13,.int .i64 ((aA : Nat) : Int))]) (fun (m,aA) wl=>Ye (Xq a0 a1) m aA=some aL ∧ St NB w wl []) (fun (m,aA)=>m) (aO,0) H ⟨rfl,rfl,rfl,rfl,trivial⟩ ⟨hm,hS⟩ ?_
  clear H hS hm a;intro xx a bC H hR;obtain⟨m,aA⟩:=xx;simp only [ent,List.map_cons,List.map_nil] at H;(try dsimp only at hR);obtain⟨hm,hS⟩:=hR
  replace hm:=Qh hm;obtain⟨aP,bD,rfl,hm,aF⟩:=hm;try dsimp only [Xq] at hm
  refine wp_seq (wp_region_lit (n_q H (Yc (i:=aA) (j:=a0.length) rfl rfl) rfl ?_));clear H a;intro a H
  refine Ze (Za (wp_seq (Zn H rfl (fun aD=>?_) (fun aD=>?_))))
  · replace hm:=Zu hm aD
    have aS : aA < a0.length:=of_decide_eq_true aD
    refine wp_skip (Za (wp_seq (wp_block (wp_seq (wp_region_lit (n_q H (Zd rfl) rfl (W_q (Zb rfl) rfl ?_)))))));clear H a;intro a H
    refine Ze (Za (wp_seq (Gw (by kernel_rfl) (by kernel_rfl) ?_)))
    refine Xn H (Zd rfl) rfl ?_;clear H a;intro a H
    refine Xn H (Zd rfl) rfl ?_;clear H a;intro a H
    replace hm:=Zj hm;obtain⟨aQ,aG,hm⟩:=hm
    obtain⟨aT,aJ⟩:=SlR.adV (h0.ext (Zi.mono _) hS.x) aB aG
    refine Xn H (Ug (i:=aA) Tryz.underlying22 Zax rfl aB aJ rfl (Zb5 aG)) rfl ?_;clear H a;intro a H
    refine Xn H (Zf rfl (SlR.ldAggV (h0.ext (Zi.mono _) hS.x) aB aJ Zk0 Zax aG)) rfl ?_;clear H a;intro a H
    refine Xn H (Zd rfl) rfl ?_;clear H a;intro a H
    refine Xn H (Zd rfl) rfl ?_;clear H a;intro a H
    replace hm:=Zj hm;obtain⟨aR,aH,hm⟩:=hm
    obtain⟨aU,aK⟩:=SlR.adV (h1.ext (Zi.mono _) hS.x) aC aH
    refine Xn H (Ug (i:=aA) Tryz.underlying22 Zax rfl aC aK rfl (Zb5 aH)) rfl ?_;clear H a;intro a H
    refine Xn H (Zf rfl (SlR.ldAggV (h1.ext (Zi.mono _) hS.x) aC aK Zk0 Zax aH)) rfl ?_;clear H a;intro a H
    refine Xn H (Zpg (Zcv st114) (Zjv aQ aR) (by omega) rfl rfl) rfl ?_;clear H a;intro a H
    refine Tg ?_;intro bE aN
    replace hS:=hS.ext aN
    refine Za (Zn H rfl (fun aI=>?_) (fun aI=>?_))
    · replace hm:=Zu hm aI
      refine wp_seq (wp_region_lit (n_q H (Zb rfl) rfl ?_));clear H a;intro a H
      refine Ze (Za (wp_ret (Zl (Zh (Zh (Zl (Zh ?_)))))))
      obtain rfl:=Option.some.inj hm;have hz : _=aL:=aF;subst hz;replace hm:=aM;try dsimp only at hm
      obtain rfl:=Option.some.inj hm
      refine Qx H (.inr rfl) rfl rfl ?_
      exact⟨rfl,hS.x⟩
    replace hm:=Zv hm aI
    refine wp_skip (Zo (Za (wp_region_lit (n_q H (Yt (i:=aA) (j:=1) rfl rfl (by omega)) rfl (W_q (Zd rfl) rfl ?_)))));clear H a;intro a H
    refine Ze (Za ?_)
    obtain rfl:=Option.some.inj hm
    exact Uz (aP,aA + 1) H ⟨rfl,rfl,rfl,rfl,trivial⟩ ⟨aF,hS⟩ (Nat.lt_succ_self _)
  replace hm:=Zv hm aD
  refine wp_exit (Zr (Zr (Qf ?_)))
  obtain rfl:=Option.some.inj hm;have hz : _=aL:=aF;subst hz;replace hm:=aM;try dsimp only at hm
  refine Za (wp_seq (wp_region_lit (n_q H (Zb rfl) rfl ?_)));clear H a;intro a H
  refine Ze (Za (wp_ret ?_))
  obtain rfl:=Option.some.inj hm
  refine Qx H (.inr rfl) rfl rfl ?_
  exact⟨rfl,hS.x⟩
theorem Zb8 {w : World} {A : Nat → Addr} {v0 : Value} {a0 : List GProcPlan} {v1 : Value} {a1 : List GProcPlan} (h0 : SlR w 3 (Zi Zs) v0 a0) (h1 : SlR w 3 (Zi Zs) v1 a1) {r : Bool} (hm : Ji a0 a1=some r) :
    Calls Tryz.prog 132 [v0,v1].toArray w (Ret fun u w'=>u=.bool r ∧ Ext w w'):=by
  have hS:=St.begin NB w
  unfold Ji at hm
  refine enter Tryz.func132 rfl rfl rfl ?_;intro a H;dsimp only [Qn,Nat.zero_add,Nat.reduceAdd] at H
  refine wp_seq (wp_region_lit (n_q H (Zb rfl) rfl ?_));clear H a;intro a H
  refine Ze (Za (wp_seq (wp_seq (wp_region_lit (n_q H (Zd rfl) rfl ?_)))));clear H a;intro a H
  obtain⟨aZ,a9,aB,aV,aW⟩:=SlR.formV (h0.ext (Zi.mono _) hS.x)
  refine n_q H (Qc Tryz.underlying23 rfl aB) rfl (W_q (Zd rfl) rfl ?_);clear H a;intro a H
  obtain⟨bA,bB,aC,aX,aY⟩:=SlR.formV (h1.ext (Zi.mono _) hS.x)
  refine n_q H (Qc Tryz.underlying23 rfl aC) rfl (W_q (Zel (i:=a0.length) (j:=a1.length) rfl rfl) rfl ?_);clear H a;intro a H
  refine Ze (Za (Zn H rfl (fun aE=>?_) (fun aE=>?_)))
  · replace hm:=Zu hm aE
    refine wp_seq (wp_region_lit (n_q H (Zb rfl) rfl ?_));clear H a;intro a H
    refine Ze (Za (wp_ret (Zh ?_)))
    obtain rfl:=Option.some.inj hm
    refine Qx H (.inr rfl) rfl rfl ?_
    exact⟨rfl,hS.x⟩
  replace hm:=Zv hm aE
  refine wp_skip (Za (wp_seq (wp_seq (wp_region_lit (n_q H (Zd rfl) rfl (W_q (Qc Tryz.underlying23 rfl aB) rfl (W_q (Zd rfl) rfl ?_)))))));clear H a;intro a H
  refine Ze (Za (wp_block ?_))
  replace hm:=Zj hm;obtain⟨aL,hm,aM⟩:=hm;replace hm:=Ql hm;obtain⟨aO,hm⟩:=hm
  refine Kr (σ:=Nat × Nat) (fun (m,aA)=>[(0,v0),(1,v1),(12,.int .i64 ((a0.length : Nat) : Int)),(13,.int .i64 ((aA : Nat) : Int))]) (fun (m,aA) wl=>Ye (Xr a0 a1) m aA=some aL ∧ St NB w wl []) (fun (m,aA)=>m) (aO,0) H ⟨rfl,rfl,rfl,rfl,trivial⟩ ⟨hm,hS⟩ ?_
  clear H hS hm a;intro xx a bC H hR;obtain⟨m,aA⟩:=xx;simp only [ent,List.map_cons,List.map_nil] at H;(try dsimp only at hR);obtain⟨hm,hS⟩:=hR
  replace hm:=Qh hm;obtain⟨aP,bD,rfl,hm,aF⟩:=hm;try dsimp only [Xr] at hm
  refine wp_seq (wp_region_lit (n_q H (Yc (i:=aA) (j:=a0.length) rfl rfl) rfl ?_));clear H a;intro a H
  refine Ze (Za (wp_seq (Zn H rfl (fun aD=>?_) (fun aD=>?_))))
  · replace hm:=Zu hm aD
    have aS : aA < a0.length:=of_decide_eq_true aD
    refine wp_skip (Za (wp_seq (wp_block (wp_seq (wp_region_lit (n_q H (Zd rfl) rfl (W_q (Zb rfl) rfl ?_)))))));clear H a;intro a H
    refine Ze (Za (wp_seq (Gw (by kernel_rfl) (by kernel_rfl) ?_)))
    refine Xn H (Zd rfl) rfl ?_;clear H a;intro a H
    refine Xn H (Zd rfl) rfl ?_;clear H a;intro a H
    replace hm:=Zj hm;obtain⟨aQ,aG,hm⟩:=hm
    obtain⟨aT,aJ⟩:=SlR.adV (h0.ext (Zi.mono _) hS.x) aB aG
    refine Xn H (Ug (i:=aA) Tryz.underlying23 Zay rfl aB aJ rfl (Zb5 aG)) rfl ?_;clear H a;intro a H
    refine Xn H (Zf rfl (SlR.ldAggV (h0.ext (Zi.mono _) hS.x) aB aJ Zk1 Zay aG)) rfl ?_;clear H a;intro a H
    refine Xn H (Zd rfl) rfl ?_;clear H a;intro a H
    refine Xn H (Zd rfl) rfl ?_;clear H a;intro a H
    replace hm:=Zj hm;obtain⟨aR,aH,hm⟩:=hm
    obtain⟨aU,aK⟩:=SlR.adV (h1.ext (Zi.mono _) hS.x) aC aH
    refine Xn H (Ug (i:=aA) Tryz.underlying23 Zay rfl aC aK rfl (Zb5 aH)) rfl ?_;clear H a;intro a H
    refine Xn H (Zf rfl (SlR.ldAggV (h1.ext (Zi.mono _) hS.x) aC aK Zk1 Zay aH)) rfl ?_;clear H a;intro a H
    refine Xn H (Zpg (Zcv st116) (Zjw aQ aR) (by omega) rfl rfl) rfl ?_;clear H a;intro a H
    refine Tg ?_;intro bE aN
    replace hS:=hS.ext aN
    refine Za (Zn H rfl (fun aI=>?_) (fun aI=>?_))
    · replace hm:=Zu hm aI
      refine wp_seq (wp_region_lit (n_q H (Zb rfl) rfl ?_));clear H a;intro a H
      refine Ze (Za (wp_ret (Zl (Zh (Zh (Zl (Zh ?_)))))))
      obtain rfl:=Option.some.inj hm;have hz : _=aL:=aF;subst hz;replace hm:=aM;try dsimp only at hm
      obtain rfl:=Option.some.inj hm
      refine Qx H (.inr rfl) rfl rfl ?_
      exact⟨rfl,hS.x⟩
    replace hm:=Zv hm aI
    refine wp_skip (Zo (Za (wp_region_lit (n_q H (Yt (i:=aA) (j:=1) rfl rfl (by omega)) rfl (W_q (Zd rfl) rfl ?_)))));clear H a;intro a H
    refine Ze (Za ?_)
    obtain rfl:=Option.some.inj hm
    exact Uz (aP,aA + 1) H ⟨rfl,rfl,rfl,rfl,trivial⟩ ⟨aF,hS⟩ (Nat.lt_succ_self _)
  replace hm:=Zv hm aD
  refine wp_exit (Zr (Zr (Qf ?_)))
  obtain rfl:=Option.some.inj hm;have hz : _=aL:=aF;subst hz;replace hm:=aM;try dsimp only at hm
  refine Za (wp_seq (wp_region_lit (n_q H (Zb rfl) rfl ?_)));clear H a;intro a H
  refine Ze (Za (wp_ret ?_))
  obtain rfl:=Option.some.inj hm
  refine Qx H (.inr rfl) rfl rfl ?_
  exact⟨rfl,hS.x⟩
theorem Zb9 {w : World} {A : Nat → Addr} {v0 : Value} {a0 : List GPortPlan} {v1 : Value} {a1 : List GPortPlan} (h0 : SlR w 4 (Zi Zp) v0 a0) (h1 : SlR w 4 (Zi Zp) v1 a1) {r : Bool} (hm : Jj a0 a1=some r) :
    Calls Tryz.prog 133 [v0,v1].toArray w (Ret fun u w'=>u=.bool r ∧ Ext w w'):=by
  have hS:=St.begin NB w
  unfold Jj at hm
  refine enter Tryz.func133 rfl rfl rfl ?_;intro a H;dsimp only [Qn,Nat.zero_add,Nat.reduceAdd] at H
  refine wp_seq (wp_region_lit (n_q H (Zb rfl) rfl ?_));clear H a;intro a H
  refine Ze (Za (wp_seq (wp_seq (wp_region_lit (n_q H (Zd rfl) rfl ?_)))));clear H a;intro a H
  obtain⟨aZ,a9,aB,aV,aW⟩:=SlR.formV (h0.ext (Zi.mono _) hS.x)
  refine n_q H (Qc Tryz.underlying24 rfl aB) rfl (W_q (Zd rfl) rfl ?_);clear H a;intro a H
  obtain⟨bA,bB,aC,aX,aY⟩:=SlR.formV (h1.ext (Zi.mono _) hS.x)
  refine n_q H (Qc Tryz.underlying24 rfl aC) rfl (W_q (Zel (i:=a0.length) (j:=a1.length) rfl rfl) rfl ?_);clear H a;intro a H
  refine Ze (Za (Zn H rfl (fun aE=>?_) (fun aE=>?_)))
  · replace hm:=Zu hm aE
    refine wp_seq (wp_region_lit (n_q H (Zb rfl) rfl ?_));clear H a;intro a H
    refine Ze (Za (wp_ret (Zh ?_)))
    obtain rfl:=Option.some.inj hm
    refine Qx H (.inr rfl) rfl rfl ?_
    exact⟨rfl,hS.x⟩
  replace hm:=Zv hm aE
  refine wp_skip (Za (wp_seq (wp_seq (wp_region_lit (n_q H (Zd rfl) rfl (W_q (Qc Tryz.underlying24 rfl aB) rfl (W_q (Zd rfl) rfl ?_)))))));clear H a;intro a H
  refine Ze (Za (wp_block ?_))
  replace hm:=Zj hm;obtain⟨aL,hm,aM⟩:=hm;replace hm:=Ql hm;obtain⟨aO,hm⟩:=hm
  refine Kr (σ:=Nat × Nat) (fun (m,aA)=>[(0,v0),(1,v1),(12,.int .i64 ((a0.length : Nat) : Int)),(13,.int .i64 ((aA : Nat) : Int))]) (fun (m,aA) wl=>Ye (Xs a0 a1) m aA=some aL ∧ St NB w wl []) (fun (m,aA)=>m) (aO,0) H ⟨rfl,rfl,rfl,rfl,trivial⟩ ⟨hm,hS⟩ ?_
  clear H hS hm a;intro xx a bC H hR;obtain⟨m,aA⟩:=xx;simp only [ent,List.map_cons,List.map_nil] at H;(try dsimp only at hR);obtain⟨hm,hS⟩:=hR
  replace hm:=Qh hm;obtain⟨aP,bD,rfl,hm,aF⟩:=hm;try dsimp only [Xs] at hm
  refine wp_seq (wp_region_lit (n_q H (Yc (i:=aA) (j:=a0.length) rfl rfl) rfl ?_));clear H a;intro a H
  refine Ze (Za (wp_seq (Zn H rfl (fun aD=>?_) (fun aD=>?_))))
  · replace hm:=Zu hm aD
    have aS : aA < a0.length:=of_decide_eq_true aD
    refine wp_skip (Za (wp_seq (wp_block (wp_seq (wp_region_lit (n_q H (Zd rfl) rfl (W_q (Zb rfl) rfl ?_)))))));clear H a;intro a H
    refine Ze (Za (wp_seq (Gw (by kernel_rfl) (by kernel_rfl) ?_)))
    refine Xn H (Zd rfl) rfl ?_;clear H a;intro a H
    refine Xn H (Zd rfl) rfl ?_;clear H a;intro a H
    replace hm:=Zj hm;obtain⟨aQ,aG,hm⟩:=hm
    obtain⟨aT,aJ⟩:=SlR.adV (h0.ext (Zi.mono _) hS.x) aB aG
    refine Xn H (Ug (i:=aA) Tryz.underlying24 Gp rfl aB aJ rfl (Zb5 aG)) rfl ?_;clear H a;intro a H
    refine Xn H (Zf rfl (SlR.ldAggV (h0.ext (Zi.mono _) hS.x) aB aJ Zdp Gp aG)) rfl ?_;clear H a;intro a H
    refine Xn H (Zd rfl) rfl ?_;clear H a;intro a H
    refine Xn H (Zd rfl) rfl ?_;clear H a;intro a H
    replace hm:=Zj hm;obtain⟨aR,aH,hm⟩:=hm
    obtain⟨aU,aK⟩:=SlR.adV (h1.ext (Zi.mono _) hS.x) aC aH
    refine Xn H (Ug (i:=aA) Tryz.underlying24 Gp rfl aC aK rfl (Zb5 aH)) rfl ?_;clear H a;intro a H
    refine Xn H (Zf rfl (SlR.ldAggV (h1.ext (Zi.mono _) hS.x) aC aK Zdp Gp aH)) rfl ?_;clear H a;intro a H
    refine Xn H (Zpg (Zcv st118) (Zjx aQ aR) (by omega) rfl rfl) rfl ?_;clear H a;intro a H
    refine Tg ?_;intro bE aN
    replace hS:=hS.ext aN
    refine Za (Zn H rfl (fun aI=>?_) (fun aI=>?_))
    · replace hm:=Zu hm aI
      refine wp_seq (wp_region_lit (n_q H (Zb rfl) rfl ?_));clear H a;intro a H
      refine Ze (Za (wp_ret (Zl (Zh (Zh (Zl (Zh ?_)))))))
      obtain rfl:=Option.some.inj hm;have hz : _=aL:=aF;subst hz;replace hm:=aM;try dsimp only at hm
      obtain rfl:=Option.some.inj hm
      refine Qx H (.inr rfl) rfl rfl ?_
      exact⟨rfl,hS.x⟩
    replace hm:=Zv hm aI
    refine wp_skip (Zo (Za (wp_region_lit (n_q H (Yt (i:=aA) (j:=1) rfl rfl (by omega)) rfl (W_q (Zd rfl) rfl ?_)))));clear H a;intro a H
    refine Ze (Za ?_)
    obtain rfl:=Option.some.inj hm
    exact Uz (aP,aA + 1) H ⟨rfl,rfl,rfl,rfl,trivial⟩ ⟨aF,hS⟩ (Nat.lt_succ_self _)
  replace hm:=Zv hm aD
  refine wp_exit (Zr (Zr (Qf ?_)))
  obtain rfl:=Option.some.inj hm;have hz : _=aL:=aF;subst hz;replace hm:=aM;try dsimp only at hm
  refine Za (wp_seq (wp_region_lit (n_q H (Zb rfl) rfl ?_)));clear H a;intro a H
  refine Ze (Za (wp_ret ?_))
  obtain rfl:=Option.some.inj hm
  refine Qx H (.inr rfl) rfl rfl ?_
  exact⟨rfl,hS.x⟩
theorem Zef {w : World} {A : Nat → Addr} {v0 : Value} {a0 : List Int} {v1 : Value} {a1 : List Int} (h0 : SlR w 1 (Zi eI) v0 a0) (h1 : SlR w 1 (Zi eI) v1 a1) {r : Bool} (hm : Vd a0 a1=some r) :
    Calls Tryz.prog 134 [v0,v1].toArray w (Ret fun u w'=>u=.bool r ∧ Ext w w'):=by
  have hS:=St.begin NB w
  unfold Vd at hm
  refine enter Tryz.func134 rfl rfl rfl ?_;intro a H;dsimp only [Qn,Nat.zero_add,Nat.reduceAdd] at H
  refine wp_seq (wp_region_lit (n_q H (Zb rfl) rfl ?_));clear H a;intro a H
  refine Ze (Za (wp_seq (wp_seq (wp_region_lit (n_q H (Zd rfl) rfl ?_)))));clear H a;intro a H
  obtain⟨aX,aY,aB,aT,aU⟩:=SlR.formV (h0.ext (Zi.mono _) hS.x)
  refine n_q H (Qc Tryz.underlying25 rfl aB) rfl (W_q (Zd rfl) rfl ?_);clear H a;intro a H
  obtain⟨aZ,a9,aC,aV,aW⟩:=SlR.formV (h1.ext (Zi.mono _) hS.x)
  refine n_q H (Qc Tryz.underlying25 rfl aC) rfl (W_q (Zel (i:=a0.length) (j:=a1.length) rfl rfl) rfl ?_);clear H a;intro a H
  refine Ze (Za (Zn H rfl (fun aE=>?_) (fun aE=>?_)))
  · replace hm:=Zu hm aE
    refine wp_seq (wp_region_lit (n_q H (Zb rfl) rfl ?_));clear H a;intro a H
    refine Ze (Za (wp_ret (Zh ?_)))
    obtain rfl:=Option.some.inj hm
    refine Qx H (.inr rfl) rfl rfl ?_
    exact⟨rfl,hS.x⟩
  replace hm:=Zv hm aE
  refine wp_skip (Za (wp_seq (wp_seq (wp_region_lit (n_q H (Zd rfl) rfl (W_q (Qc Tryz.underlying25 rfl aB) rfl (W_q (Zd rfl) rfl ?_)))))));clear H a;intro a H
  refine Ze (Za (wp_block ?_))
  replace hm:=Zj hm;obtain⟨aL,hm,aM⟩:=hm;replace hm:=Ql hm;obtain⟨aO,hm⟩:=hm
  refine Kr (σ:=Nat × Nat) (fun (m,aA)=>[(0,v0),(1,v1),(12,.int .i64 ((a0.length : Nat) : Int)),(13,.int .i64 ((aA : Nat) : Int))]) (fun (m,aA) wl=>Ye (Ki a0 a1) m aA=some aL ∧ St NB w wl []) (fun (m,aA)=>m) (aO,0) H ⟨rfl,rfl,rfl,rfl,trivial⟩ ⟨hm,hS⟩ ?_
  clear H hS hm a;intro xx a bA H hR;obtain⟨m,aA⟩:=xx;simp only [ent,List.map_cons,List.map_nil] at H;(try dsimp only at hR);obtain⟨hm,hS⟩:=hR
  replace hm:=Qh hm;obtain⟨aP,bB,rfl,hm,aF⟩:=hm;try dsimp only [Ki] at hm
  refine wp_seq (wp_region_lit (n_q H (Yc (i:=aA) (j:=a0.length) rfl rfl) rfl ?_));clear H a;intro a H
  refine Ze (Za (wp_seq (Zn H rfl (fun aD=>?_) (fun aD=>?_))))
  · replace hm:=Zu hm aD
    have aQ : aA < a0.length:=of_decide_eq_true aD
    refine wp_skip (Za (wp_seq (wp_block (wp_seq (wp_region_lit (n_q H (Zd rfl) rfl (W_q (Zb rfl) rfl ?_)))))));clear H a;intro a H
    refine Ze (Za (wp_seq (Gw (by kernel_rfl) (by kernel_rfl) ?_)))
    refine Xn H (Zd rfl) rfl ?_;clear H a;intro a H
    refine Xn H (Zd rfl) rfl ?_;clear H a;intro a H
    replace hm:=Zj hm;obtain⟨bC,aG,hm⟩:=hm
    obtain⟨aR,aJ⟩:=SlR.adV (h0.ext (Zi.mono _) hS.x) aB aG
    refine Xn H (Ug (i:=aA) Tryz.underlying25 sz3 rfl aB aJ rfl (Zb5 aG)) rfl ?_;clear H a;intro a H
    refine Xn H (Zf rfl (SlR.ldOneV (h0.ext (Zi.mono _) hS.x) aB aJ ag3 aG rfl)) rfl ?_;clear H a;intro a H
    refine Xn H (Zd rfl) rfl ?_;clear H a;intro a H
    refine Xn H (Zd rfl) rfl ?_;clear H a;intro a H
    replace hm:=Zj hm;obtain⟨bD,aH,hm⟩:=hm
    obtain⟨aS,aK⟩:=SlR.adV (h1.ext (Zi.mono _) hS.x) aC aH
    refine Xn H (Ug (i:=aA) Tryz.underlying25 sz3 rfl aC aK rfl (Zb5 aH)) rfl ?_;clear H a;intro a H
    refine Xn H (Zf rfl (SlR.ldOneV (h1.ext (Zi.mono _) hS.x) aC aK ag3 aH rfl)) rfl ?_;clear H a;intro a H
    refine Xn H (Th rfl rfl) rfl ?_;clear H a;intro a H
    refine Tg ?_;intro bE aN
    replace hS:=hS.ext aN
    refine Za (Zn H rfl (fun aI=>?_) (fun aI=>?_))
    · replace hm:=Zu hm aI
      refine wp_seq (wp_region_lit (n_q H (Zb rfl) rfl ?_));clear H a;intro a H
      refine Ze (Za (wp_ret (Zl (Zh (Zh (Zl (Zh ?_)))))))
      obtain rfl:=Option.some.inj hm;have hz : _=aL:=aF;subst hz;replace hm:=aM;try dsimp only at hm
      obtain rfl:=Option.some.inj hm
      refine Qx H (.inr rfl) rfl rfl ?_
      exact⟨rfl,hS.x⟩
    replace hm:=Zv hm aI
    refine wp_skip (Zo (Za (wp_region_lit (n_q H (Yt (i:=aA) (j:=1) rfl rfl (by omega)) rfl (W_q (Zd rfl) rfl ?_)))));clear H a;intro a H
    refine Ze (Za ?_)
    obtain rfl:=Option.some.inj hm
    exact Uz (aP,aA + 1) H ⟨rfl,rfl,rfl,rfl,trivial⟩ ⟨aF,hS⟩ (Nat.lt_succ_self _)
  replace hm:=Zv hm aD
  refine wp_exit (Zr (Zr (Qf ?_)))
  obtain rfl:=Option.some.inj hm;have hz : _=aL:=aF;subst hz;replace hm:=aM;try dsimp only at hm
  refine Za (wp_seq (wp_region_lit (n_q H (Zb rfl) rfl ?_)));clear H a;intro a H
  refine Ze (Za (wp_ret ?_))
  obtain rfl:=Option.some.inj hm
  refine Qx H (.inr rfl) rfl rfl ?_
  exact⟨rfl,hS.x⟩
theorem Zj7 {w : World} {A : Nat → Addr} {cs0 : List Value} {a0 : GPlan} {cs1 : List Value} {a1 : GPlan} (h0 : Xa w cs0 a0) (h1 : Xa w cs1 a1) {r : Bool} (hm : Zbm a0 a1=some r) :
    Calls Tryz.prog 58 [.agg cs0.toArray,.agg cs1.toArray].toArray w (Ret fun u w'=>u=.bool r ∧ Ext w w'):=by
  obtain⟨aO,aP,aQ,aR,rfl,aG,aH,aI,aJ⟩:=h0
  obtain⟨aS,aT,aU,aV,rfl,aK,aL,aM,aN⟩:=h1
  have hS:=St.begin NB w
  unfold Zbm at hm
  refine enter Tryz.func58 rfl rfl rfl ?_;intro a H;dsimp only [Qn,Nat.zero_add,Nat.reduceAdd] at H
  refine wp_seq (wp_region_lit (Yy H rfl (cs:=[.int .i64 a0.Id,.bool a0.Mobile,aO,aP,aQ,.int .i64 a0.Events,aR]) rfl rfl ?_))
  clear H;intro bI bJ hN aW hs;clear a;intro a H
  replace hS:=hS.newBlk hN aW hs;clear hN hs
  refine Yy H rfl (cs:=[.int .i64 a1.Id,.bool a1.Mobile,aS,aT,aU,.int .i64 a1.Events,aV]) rfl rfl ?_
  clear H;intro bK bL hN aX hs;clear a;intro a H
  replace hS:=hS.newBlk hN aX hs;clear hN hs
  refine n_q H (Zb rfl) rfl ?_;clear H a;intro a H
  refine Ze (Za (wp_seq (wp_region_lit (n_q H (Zc rfl Zfg) rfl (W_q (Zf rfl ((hS.blk 1 rfl).ld ag3 rfl)) rfl (W_q (Zc rfl Zfg) rfl (W_q (Zf rfl ((hS.blk 0 rfl).ld ag3 rfl)) rfl (W_q (Jy rfl rfl) rfl (W_q (Zd rfl) rfl ?_)))))))));clear H a;intro a H
  rcases Bool.eq_false_or_eq_true (decide (a0.Id=a1.Id)) with aA|aA
  · replace H:=H.know 10 rfl aA
    replace hm:=Zu hm aA
    refine Kq H rfl rfl (n_q H (Zc rfl Zn0) rfl (Zy rfl rfl (W_q (Zf rfl ((hS.blk 1 rfl).ld ag4 rfl)) rfl (Zy rfl rfl (W_q (Zc rfl Zn0) rfl (Zy rfl rfl (W_q (Zf rfl ((hS.blk 0 rfl).ld ag4 rfl)) rfl (Zy rfl rfl (W_q (Zsv Tryz.underlying4 rfl rfl) rfl (W_q (Zx rfl rfl) rfl (W_q (Zd rfl) rfl ?_)))))))))));clear H a;intro a H
    rcases Bool.eq_false_or_eq_true (a0.Mobile == a1.Mobile) with aB|aB
    · replace H:=H.know 17 rfl aB
      replace hm:=Zu hm aB
      refine Kq H rfl rfl (n_q H (Zc rfl Zdq) rfl (Zy rfl rfl (W_q (Zf rfl ((hS.blk 1 rfl).ld ag3 rfl)) rfl (Zy rfl rfl (W_q (Zc rfl Zdq) rfl (Zy rfl rfl (W_q (Zf rfl ((hS.blk 0 rfl).ld ag3 rfl)) rfl (Zy rfl rfl (W_q (Jy rfl rfl) rfl (W_q (Zx rfl rfl) rfl (W_q (Zd rfl) rfl ?_)))))))))));clear H a;intro a H
      rcases Bool.eq_false_or_eq_true (decide (a0.Events=a1.Events)) with aC|aC
      · replace H:=H.know 24 rfl aC
        replace hm:=Zu hm aC
        refine Kq H rfl rfl (n_q H (Zc rfl Zap) rfl (Zy rfl rfl (W_q (Zf rfl ((hS.blk 1 rfl).ld Zmo rfl)) rfl (Zy rfl rfl (W_q (Zc rfl Zap) rfl (Zy rfl rfl (W_q (Zf rfl ((hS.blk 0 rfl).ld Zmo rfl)) rfl (Zy rfl rfl ?_))))))));clear H a;intro a H
        replace hm:=Zj hm;obtain⟨bF,aY,hm⟩:=hm
        refine Zk H rfl en131 (Zb7 (A:=A) (aG.ext (Zi.mono _) hS.x) (aK.ext (Zi.mono _) hS.x) aY) rfl ?_
        clear H;intro bM bN hv;clear a;intro a H;obtain⟨rfl,aZ⟩:=hv
        replace hS:=hS.ext aZ
        refine n_q H (Zx rfl rfl) rfl (W_q (Zd rfl) rfl ?_);clear H a;intro a H
        rcases Bool.eq_false_or_eq_true bF with aD|aD
        · replace H:=H.know 31 rfl aD
          replace hm:=Zu hm aD
          refine Kq H rfl rfl (n_q H (Zc rfl Zbn) rfl (Zy rfl rfl (W_q (Zf rfl ((hS.blk 1 rfl).ld Zom rfl)) rfl (Zy rfl rfl (W_q (Zc rfl Zbn) rfl (Zy rfl rfl (W_q (Zf rfl ((hS.blk 0 rfl).ld Zom rfl)) rfl (Zy rfl rfl ?_))))))));clear H a;intro a H
          replace hm:=Zj hm;obtain⟨bG,a9,hm⟩:=hm
          refine Zk H rfl en132 (Zb8 (A:=A) (aH.ext (Zi.mono _) hS.x) (aL.ext (Zi.mono _) hS.x) a9) rfl ?_
          clear H;intro bO bP hv;clear a;intro a H;obtain⟨rfl,bA⟩:=hv
          replace hS:=hS.ext bA
          refine n_q H (Zx rfl rfl) rfl (W_q (Zd rfl) rfl ?_);clear H a;intro a H
          rcases Bool.eq_false_or_eq_true bG with aE|aE
          · replace H:=H.know 38 rfl aE
            replace hm:=Zu hm aE
            refine Kq H rfl rfl (n_q H (Zc rfl Tu) rfl (Zy rfl rfl (W_q (Zf rfl ((hS.blk 1 rfl).ld Zk2 rfl)) rfl (Zy rfl rfl (W_q (Zc rfl Tu) rfl (Zy rfl rfl (W_q (Zf rfl ((hS.blk 0 rfl).ld Zk2 rfl)) rfl (Zy rfl rfl ?_))))))));clear H a;intro a H
            replace hm:=Zj hm;obtain⟨bH,bB,hm⟩:=hm
            refine Zk H rfl en133 (Zb9 (A:=A) (aI.ext (Zi.mono _) hS.x) (aM.ext (Zi.mono _) hS.x) bB) rfl ?_
            clear H;intro bQ bR hv;clear a;intro a H;obtain⟨rfl,bC⟩:=hv
            replace hS:=hS.ext bC
            refine n_q H (Zx rfl rfl) rfl (W_q (Zd rfl) rfl ?_);clear H a;intro a H
            rcases Bool.eq_false_or_eq_true bH with aF|aF
            · replace H:=H.know 45 rfl aF
              replace hm:=Zu hm aF
              refine Kq H rfl rfl (n_q H (Zc rfl Zbx) rfl (Zy rfl rfl (W_q (Zf rfl ((hS.blk 1 rfl).ld Zil rfl)) rfl (Zy rfl rfl (W_q (Zc rfl Zbx) rfl (Zy rfl rfl (W_q (Zf rfl ((hS.blk 0 rfl).ld Zil rfl)) rfl (Zy rfl rfl ?_))))))));clear H a;intro a H
              replace hm:=Zj hm;obtain⟨bS,bD,hm⟩:=hm
              refine Zk H rfl en134 (Zef (A:=A) (aJ.ext (Zi.mono _) hS.x) (aN.ext (Zi.mono _) hS.x) bD) rfl ?_
              clear H;intro bT bU hv;clear a;intro a H;obtain⟨rfl,bE⟩:=hv
              replace hS:=hS.ext bE
              refine n_q H (Zx rfl rfl) rfl (W_q (Zb rfl) rfl ?_);clear H a;intro a H
              refine Ze (Za (wp_ret ?_))
              obtain rfl:=Option.some.inj hm
              replace hS:=hS.tk0
              refine Qx H (.inr rfl) rfl rfl ?_
              exact⟨rfl,hS.x⟩
            replace H:=H.know 45 rfl aF
            replace hm:=Zv hm aF
            refine Tp H rfl rfl (by decide) rfl (Zz rfl rfl (by decide) rfl (Zz rfl rfl (by decide) rfl (Zz rfl rfl (by decide) rfl (Zz rfl rfl (by decide) rfl (W_q (Zt rfl rfl) rfl (W_q (Zb rfl) rfl ?_))))));clear H a;intro a H
            refine Ze (Za (wp_ret ?_))
            obtain rfl:=Option.some.inj hm
            replace hS:=hS.tk0
            refine Qx H (.inr rfl) rfl rfl ?_
            exact⟨rfl,hS.x⟩
          replace H:=H.know 38 rfl aE
          replace hm:=Zv hm aE
          refine Tp H rfl rfl (by decide) rfl (Zz rfl rfl (by decide) rfl (Zz rfl rfl (by decide) rfl (Zz rfl rfl (by decide) rfl (Zz rfl rfl (by decide) rfl (W_q (Zt rfl rfl) rfl (W_q (Zd rfl) rfl (Zz rfl rfl (by decide) rfl (Zz rfl rfl (by decide) rfl (Zz rfl rfl (by decide) rfl (Zz rfl rfl (by decide) rfl (Zz rfl rfl (by decide) rfl ?_)))))))))));clear H a;intro a H
          refine n_q H (Zt rfl rfl) rfl (W_q (Zb rfl) rfl ?_);clear H a;intro a H
          refine Ze (Za (wp_ret ?_))
          obtain rfl:=Option.some.inj hm
          replace hS:=hS.tk0
          refine Qx H (.inr rfl) rfl rfl ?_
          exact⟨rfl,hS.x⟩
        replace H:=H.know 31 rfl aD
        replace hm:=Zv hm aD
        refine Tp H rfl rfl (by decide) rfl (Zz rfl rfl (by decide) rfl (Zz rfl rfl (by decide) rfl (Zz rfl rfl (by decide) rfl (Zz rfl rfl (by decide) rfl (W_q (Zt rfl rfl) rfl (W_q (Zd rfl) rfl (Zz rfl rfl (by decide) rfl (Zz rfl rfl (by decide) rfl (Zz rfl rfl (by decide) rfl (Zz rfl rfl (by decide) rfl (Zz rfl rfl (by decide) rfl ?_)))))))))));clear H a;intro a H
        refine n_q H (Zt rfl rfl) rfl (W_q (Zd rfl) rfl (Zz rfl rfl (by decide) rfl (Zz rfl rfl (by decide) rfl (Zz rfl rfl (by decide) rfl (Zz rfl rfl (by decide) rfl (Zz rfl rfl (by decide) rfl (W_q (Zt rfl rfl) rfl (W_q (Zb rfl) rfl ?_))))))));clear H a;intro a H
        refine Ze (Za (wp_ret ?_))
        obtain rfl:=Option.some.inj hm
        replace hS:=hS.tk0
        refine Qx H (.inr rfl) rfl rfl ?_
        exact⟨rfl,hS.x⟩
      replace H:=H.know 24 rfl aC
      replace hm:=Zv hm aC
      refine Tp H rfl rfl (by decide) rfl (Zz rfl rfl (by decide) rfl (Zz rfl rfl (by decide) rfl (Zz rfl rfl (by decide) rfl (Zz rfl rfl (by decide) rfl (W_q (Zt rfl rfl) rfl (W_q (Zd rfl) rfl (Zz rfl rfl (by decide) rfl (Zz rfl rfl (by decide) rfl (Zz rfl rfl (by decide) rfl (Zz rfl rfl (by decide) rfl (Zz rfl rfl (by decide) rfl ?_)))))))))));clear H a;intro a H
      refine n_q H (Zt rfl rfl) rfl (W_q (Zd rfl) rfl (Zz rfl rfl (by decide) rfl (Zz rfl rfl (by decide) rfl (Zz rfl rfl (by decide) rfl (Zz rfl rfl (by decide) rfl (Zz rfl rfl (by decide) rfl (W_q (Zt rfl rfl) rfl (W_q (Zd rfl) rfl (Zz rfl rfl (by decide) rfl (Zz rfl rfl (by decide) rfl (Zz rfl rfl (by decide) rfl ?_)))))))))));clear H a;intro a H
      refine Tp H rfl rfl (by decide) rfl (Zz rfl rfl (by decide) rfl (W_q (Zt rfl rfl) rfl (W_q (Zb rfl) rfl ?_)));clear H a;intro a H
      refine Ze (Za (wp_ret ?_))
      obtain rfl:=Option.some.inj hm
      replace hS:=hS.tk0
      refine Qx H (.inr rfl) rfl rfl ?_
      exact⟨rfl,hS.x⟩
    replace H:=H.know 17 rfl aB
    replace hm:=Zv hm aB
    refine Tp H rfl rfl (by decide) rfl (Zz rfl rfl (by decide) rfl (Zz rfl rfl (by decide) rfl (Zz rfl rfl (by decide) rfl (Zz rfl rfl (by decide) rfl (W_q (Zt rfl rfl) rfl (W_q (Zd rfl) rfl (Zz rfl rfl (by decide) rfl (Zz rfl rfl (by decide) rfl (Zz rfl rfl (by decide) rfl (Zz rfl rfl (by decide) rfl (Zz rfl rfl (by decide) rfl ?_)))))))))));clear H a;intro a H
    refine n_q H (Zt rfl rfl) rfl (W_q (Zd rfl) rfl (Zz rfl rfl (by decide) rfl (Zz rfl rfl (by decide) rfl (Zz rfl rfl (by decide) rfl (Zz rfl rfl (by decide) rfl (Zz rfl rfl (by decide) rfl (W_q (Zt rfl rfl) rfl (W_q (Zd rfl) rfl (Zz rfl rfl (by decide) rfl (Zz rfl rfl (by decide) rfl (Zz rfl rfl (by decide) rfl ?_)))))))))));clear H a;intro a H
    refine Tp H rfl rfl (by decide) rfl (Zz rfl rfl (by decide) rfl (W_q (Zt rfl rfl) rfl (W_q (Zd rfl) rfl (Zz rfl rfl (by decide) rfl (Zz rfl rfl (by decide) rfl (Zz rfl rfl (by decide) rfl (Zz rfl rfl (by decide) rfl (Zz rfl rfl (by decide) rfl (W_q (Zt rfl rfl) rfl (W_q (Zb rfl) rfl ?_))))))))));clear H a;intro a H
    refine Ze (Za (wp_ret ?_))
    obtain rfl:=Option.some.inj hm
    replace hS:=hS.tk0
    refine Qx H (.inr rfl) rfl rfl ?_
    exact⟨rfl,hS.x⟩
  replace H:=H.know 10 rfl aA
  replace hm:=Zv hm aA
  refine Tp H rfl rfl (by decide) rfl (Zz rfl rfl (by decide) rfl (Zz rfl rfl (by decide) rfl (Zz rfl rfl (by decide) rfl (Zz rfl rfl (by decide) rfl (W_q (Zt rfl rfl) rfl (W_q (Zd rfl) rfl (Zz rfl rfl (by decide) rfl (Zz rfl rfl (by decide) rfl (Zz rfl rfl (by decide) rfl (Zz rfl rfl (by decide) rfl (Zz rfl rfl (by decide) rfl ?_)))))))))));clear H a;intro a H
  refine n_q H (Zt rfl rfl) rfl (W_q (Zd rfl) rfl (Zz rfl rfl (by decide) rfl (Zz rfl rfl (by decide) rfl (Zz rfl rfl (by decide) rfl (Zz rfl rfl (by decide) rfl (Zz rfl rfl (by decide) rfl (W_q (Zt rfl rfl) rfl (W_q (Zd rfl) rfl (Zz rfl rfl (by decide) rfl (Zz rfl rfl (by decide) rfl (Zz rfl rfl (by decide) rfl ?_)))))))))));clear H a;intro a H
  refine Tp H rfl rfl (by decide) rfl (Zz rfl rfl (by decide) rfl (W_q (Zt rfl rfl) rfl (W_q (Zd rfl) rfl (Zz rfl rfl (by decide) rfl (Zz rfl rfl (by decide) rfl (Zz rfl rfl (by decide) rfl (Zz rfl rfl (by decide) rfl (Zz rfl rfl (by decide) rfl (W_q (Zt rfl rfl) rfl (W_q (Zd rfl) rfl (Zz rfl rfl (by decide) rfl ?_)))))))))));clear H a;intro a H
  refine Tp H rfl rfl (by decide) rfl (Zz rfl rfl (by decide) rfl (Zz rfl rfl (by decide) rfl (Zz rfl rfl (by decide) rfl (W_q (Zt rfl rfl) rfl (W_q (Zb rfl) rfl ?_)))));clear H a;intro a H
  refine Ze (Za (wp_ret ?_))
  obtain rfl:=Option.some.inj hm
  replace hS:=hS.tk0
  refine Qx H (.inr rfl) rfl rfl ?_
  exact⟨rfl,hS.x⟩
theorem Ue {w : World} {A : Nat → Addr} {a0 : Int} {a1 : Int} {a2 : Int} {a3 : Int} {r : ByteArray} (hm : Ub a0 a1 a2 a3=some r) :
    Calls Tryz.prog 138 [.int .i64 a0,.int .i64 a1,.int .i64 a2,.int .i64 a3].toArray w (Ret fun u w'=>u=.string r ∧ Ext w w'):=by
  have hS:=St.begin NB w
  unfold Ub at hm
  refine enter Tryz.func138 rfl rfl rfl ?_;intro a H;dsimp only [Qn,Nat.zero_add,Nat.reduceAdd] at H
  refine wp_seq (wp_region_lit (n_q H (Zb rfl) rfl ?_));clear H a;intro a H
  refine Ze (Za (wp_seq (wp_region_lit (n_q H (Zd rfl) rfl (W_q (q_and rfl rfl) rfl (W_q (Zb rfl) rfl ?_))))));clear H a;intro a H
  refine Ze (Za (wp_seq (wp_region_lit (n_q H (Zd rfl) rfl (W_q (Hz Tryz.underlying3 Tryz.underlying5 ⟨_,rfl⟩ rfl) rfl (W_q (Zd rfl) rfl (W_q (Zha rfl rfl) rfl (W_q (Zd rfl) rfl (W_q (Uo rfl rfl) rfl (W_q (Hz Tryz.underlying3 Tryz.underlying5 ⟨_,rfl⟩ rfl) rfl (W_q (Zd rfl) rfl (W_q (q_quoW rfl rfl (by decide)) rfl (W_q (Hz Tryz.underlying3 Tryz.underlying5 ⟨_,rfl⟩ rfl) rfl (W_q (Zd rfl) rfl (W_q (Zss rfl rfl (by decide)) rfl ?_)))))))))))))));clear H a;intro a H
  refine n_q H (Hz Tryz.underlying3 Tryz.underlying5 ⟨_,rfl⟩ rfl) rfl ?_;clear H a;intro a H
  refine Qb H Tryz.underlying100 sz5 ze5 rfl rfl rfl (cs:=[.int .u8 (IntKind.u8.wrap a0),.int .u8 (IntKind.u8.wrap (IntKind.i64.wrap ((IntKind.i64.wrap (a1 * 16)) + a2))),.int .u8 (IntKind.u8.wrap (IntKind.i64.wrap (Int.tdiv (Zdl .i64 a3 65535) 256))),.int .u8 (IntKind.u8.wrap (Int.tmod (Zdl .i64 a3 65535) 256))]) (by kernel_rfl) rfl ?_
  clear H;intro aB aC hN aA hs;clear a;intro a H
  replace hS:=hS.newBlk hN aA hs;clear hN hs
  replace hS:=hS.blkOwnL (e:=eB) (k:=1) [(Qz a0),(Qz (IntKind.i64.wrap ((IntKind.i64.wrap (a1 * 16)) + a2))),(Qz (IntKind.i64.wrap (Int.tdiv (Zdl .i64 a3 65535) 256))),(Qz (Int.tmod (Zdl .i64 a3 65535) 256))] (by simp [Zmj,Znv]) rfl (by simp [maxLen])
  refine n_q H (Zmh Tryz.underlying100 Tryz.underlying5 Tryz.underlying9 rfl (fun w' hw=>(((hS.own 0 rfl).slr rfl (fun _ _=>rfl)).ext (Zi.mono _) hw))) rfl (W_q (Zb rfl) rfl ?_);clear H a;intro a H
  refine Ze (Za (wp_ret ?_))
  obtain rfl:=Option.some.inj hm
  replace hS:=hS.tk0
  refine Qx H (.inr rfl) rfl rfl ?_
  exact⟨rfl,hS.x⟩
theorem Zfo {w : World} {A : Nat → Addr} {r : GPlan} (hm : Zac=some r) :
    Calls Tryz.prog 63 [].toArray w (Ret fun u w'=>∃ h_0 h_1 h_2 h_3,u=.agg #[.int .i64 r.Id,.bool r.Mobile,h_0,h_1,h_2,.int .i64 r.Events,h_3] ∧ St NB w w' [ownR 114 2 h_0 r.Pages.length (r.Pages.flatMap Zw),ownR 116 3 h_1 r.Procs.length (r.Procs.flatMap Zs),ownR 118 4 h_2 r.Ports.length (r.Ports.flatMap Zp),ownR 3 1 h_3 r.Sems.length (r.Sems.flatMap eI)]):=by
  have hS:=St.begin NB w
  unfold Zac at hm
  refine enter Tryz.func63 rfl rfl rfl ?_;intro a H;dsimp only [Qn,Nat.zero_add,Nat.reduceAdd] at H
  refine wp_seq (wp_region_lit (Jb H Zms rfl ?_))
  clear H;intro bQ bR hN aM hs;clear a;intro a H
  replace hS:=hS.newBlk hN aM hs;clear hN hs
  refine Ze (Za (wp_seq (wp_region_lit ?_)))
  replace hm:=Zj hm;obtain⟨aA,aN,hm⟩:=hm
  refine Zk H rfl Zj5 (Ue (A:=A) aN) rfl ?_
  clear H;intro bS bT hv;clear a;intro a H;obtain⟨rfl,aO⟩:=hv
  replace hS:=hS.ext aO
  replace hm:=Zj hm;obtain⟨aB,aP,hm⟩:=hm
  refine Zk H rfl Zj5 (Ue (A:=A) aP) rfl ?_
  clear H;intro bU bV hv;clear a;intro a H;obtain⟨rfl,aQ⟩:=hv
  replace hS:=hS.ext aQ
  replace hm:=Za6 hm;obtain⟨aR,hm⟩:=hm
  refine n_q H (Zkm rfl rfl aR) rfl ?_;clear H a;intro a H
  replace hm:=Zj hm;obtain⟨aC,aS,hm⟩:=hm
  refine Zk H rfl Zj5 (Ue (A:=A) aS) rfl ?_
  clear H;intro bW bX hv;clear a;intro a H;obtain⟨rfl,aT⟩:=hv
  replace hS:=hS.ext aT
  replace hm:=Za6 hm;obtain⟨aU,hm⟩:=hm
  refine n_q H (Zkm rfl rfl aU) rfl ?_;clear H a;intro a H
  replace hm:=Zj hm;obtain⟨aD,aV,hm⟩:=hm
  refine Zk H rfl Zj5 (Ue (A:=A) aV) rfl ?_
  clear H;intro bY bZ hv;clear a;intro a H;obtain⟨rfl,aW⟩:=hv
  replace hS:=hS.ext aW
  replace hm:=Za6 hm;obtain⟨aX,hm⟩:=hm
  refine n_q H (Zkm rfl rfl aX) rfl ?_;clear H a;intro a H
  replace hm:=Zj hm;obtain⟨aE,aY,hm⟩:=hm
  refine Zk H rfl Zj5 (Ue (A:=A) aY) rfl ?_
  clear H;intro b6 b7 hv;clear a;intro a H;obtain⟨rfl,aZ⟩:=hv
  replace hS:=hS.ext aZ
  replace hm:=Za6 hm;obtain⟨a9,hm⟩:=hm
  refine n_q H (Zkm rfl rfl a9) rfl ?_;clear H a;intro a H
  replace hm:=Zj hm;obtain⟨aF,bA,hm⟩:=hm
  refine Zk H rfl Zj5 (Ue (A:=A) bA) rfl ?_
  clear H;intro b8 b9 hv;clear a;intro a H;obtain⟨rfl,bB⟩:=hv
  replace hS:=hS.ext bB
  replace hm:=Za6 hm;obtain⟨bC,hm⟩:=hm
  refine n_q H (Zkm rfl rfl bC) rfl ?_;clear H a;intro a H
  replace hm:=Zj hm;obtain⟨aG,bD,hm⟩:=hm
  refine Zk H rfl Zj5 (Ue (A:=A) bD) rfl ?_
  clear H;intro cA cB hv;clear a;intro a H;obtain⟨rfl,bE⟩:=hv
  replace hS:=hS.ext bE
  replace hm:=Za6 hm;obtain⟨bF,hm⟩:=hm
  refine n_q H (Zkm rfl rfl bF) rfl ?_;clear H a;intro a H
  replace hm:=Zj hm;obtain⟨aH,bG,hm⟩:=hm
  refine Zk H rfl Zj5 (Ue (A:=A) bG) rfl ?_
  clear H;intro cC cD hv;clear a;intro a H;obtain⟨rfl,bH⟩:=hv
  replace hS:=hS.ext bH
  replace hm:=Za6 hm;obtain⟨bI,hm⟩:=hm
  refine n_q H (Zkm rfl rfl bI) rfl ?_;clear H a;intro a H
  replace hm:=Zj hm;obtain⟨aI,bJ,hm⟩:=hm
  refine Zk H rfl Zj5 (Ue (A:=A) bJ) rfl ?_
  clear H;intro cF cG hv;clear a;intro a H;obtain⟨rfl,bK⟩:=hv
  replace hS:=hS.ext bK
  replace hm:=Za6 hm;obtain⟨bL,hm⟩:=hm
  refine n_q H (Zkm rfl rfl bL) rfl (W_q (Zb rfl) rfl ?_);clear H a;intro a H
  refine Ze (Za (wp_seq (wp_region_lit (n_q H (Zd rfl) rfl (W_q (Qt (cs:=[.int .i64 5,.string ((((((((aA ++ aB) ++ aC) ++ aD) ++ aE) ++ aF) ++ aG) ++ aH) ++ aI)]) Zgo Zro Zrp rfl (by kernel_rfl)) rfl (W_q (Qt (cs:=[.int .i64 3,.string ⟨#[]⟩]) Zgo Zro Zrp rfl (by kernel_rfl)) rfl ?_))))));clear H a;intro a H
  refine Qb H Tryz.underlying22 Zax Zgo rfl rfl rfl (cs:=[.int .i64 5,.string ((((((((aA ++ aB) ++ aC) ++ aD) ++ aE) ++ aF) ++ aG) ++ aH) ++ aI),.int .i64 3,.string ⟨#[]⟩]) (by kernel_rfl) rfl ?_
  clear H;intro aJ cH hN bM hs;clear a;intro a H
  replace hS:=hS.newBlk hN bM hs;clear hN hs
  replace hS:=hS.blkOwnL (e:=Zw) (k:=2) [(⟨5,((((((((aA ++ aB) ++ aC) ++ aD) ++ aE) ++ aF) ++ aG) ++ aH) ++ aI)⟩ : GPagePlan),(⟨3,⟨#[]⟩⟩ : GPagePlan)] rfl rfl (by simp [maxLen])
  refine n_q H (Qt (cs:=[.int .i64 0,.int .i64 1,.bool true]) Zhs bd116 pl116 rfl (by kernel_rfl)) rfl ?_;clear H a;intro a H
  refine Qb H Tryz.underlying23 Zay Zhs rfl rfl rfl (cs:=[.int .i64 0,.int .i64 1,.bool true]) (by kernel_rfl) rfl ?_
  clear H;intro aK cI hN bN hs;clear a;intro a H
  replace hS:=hS.newBlk hN bN hs;clear hN hs
  replace hS:=hS.blkOwnL (e:=Zs) (k:=3) [(⟨0,1,true⟩ : GProcPlan)] rfl rfl (by simp [maxLen])
  refine n_q H (Qt (cs:=[.int .i64 2,.int .i64 1,.int .i64 1,.int .i64 0]) Zgp bd118 pl118 rfl (by kernel_rfl)) rfl ?_;clear H a;intro a H
  refine Qb H Tryz.underlying24 Gp Zgp rfl rfl rfl (cs:=[.int .i64 2,.int .i64 1,.int .i64 1,.int .i64 0]) (by kernel_rfl) rfl ?_
  clear H;intro aL cJ hN bO hs;clear a;intro a H
  replace hS:=hS.newBlk hN bO hs;clear hN hs
  replace hS:=hS.blkOwnL (e:=Zp) (k:=4) [(⟨2,1,1,0⟩ : GPortPlan)] rfl rfl (by simp [maxLen])
  refine n_q H (Qt (cs:=[.int .i64 0,.bool true,.slice (some ⟨aJ,0,none⟩) 2 2,.slice (some ⟨aK,0,none⟩) 1 1,.slice (some ⟨aL,0,none⟩) 1 1,.int .i64 0,.slice none 0 0]) Zms Zts Ztt rfl ((Qk rfl rfl (by simp)).trans ((Qk (((hS.own 2 rfl).slr rfl (fun _ _=>rfl))).one rfl (by simp)).trans ((Qk (((hS.own 1 rfl).slr rfl (fun _ _=>rfl))).one rfl (by simp)).trans ((Qk (((hS.own 0 rfl).slr rfl (fun _ _=>rfl))).one rfl (by simp)).trans rfl))))) rfl ?_;clear H a;intro a H
  replace hS:=hS.pk3
  refine Qi H rfl rfl (vs:=[.int .i64 0,.bool true,.slice (some ⟨aJ,0,none⟩) 2 2,.slice (some ⟨aK,0,none⟩) 1 1,.slice (some ⟨aL,0,none⟩) 1 1,.int .i64 0,.slice none 0 0]) rfl Zav (hS.blk 0 rfl) rfl (by simp [(((hS.own 3 rfl).slr rfl (fun _ _=>rfl))).one,(((hS.own 2 rfl).slr rfl (fun _ _=>rfl))).one,(((hS.own 1 rfl).slr rfl (fun _ _=>rfl))).one]) ?_
  clear H;intro cK hN bP hz;clear a;intro a H;replace hS:=hS.setBlk hN bP;clear hN hz
  refine Ze (Za (wp_ret ?_))
  obtain rfl:=Option.some.inj hm
  replace hS:=hS.nilOwn 3 1
  replace hS:=hS.pk1
  replace hS:=hS.pk1
  replace hS:=hS.pk2
  replace hS:=hS.pk3
  replace hS:=hS.pk4
  refine Zhd H (.inr rfl) rfl (vs:=[.agg #[.int .i64 0,.bool true,.slice (some ⟨aJ,0,none⟩) 2 2,.slice (some ⟨aK,0,none⟩) 1 1,.slice (some ⟨aL,0,none⟩) 1 1,.int .i64 0,.slice none 0 0]]) (He rfl ((hS.blk 4 rfl).ldAll Zda Zav) Hd) ?_
  replace hS:=hS.tk4
  exact⟨_,_,_,_,rfl,hS⟩
theorem Ko {w : World} {A : Nat → Addr} {a0 : Int} {a1 : Int} {a2 : Int} {r : Bool} (hm : Je a0 a1 a2=some r) :
    Calls Tryz.prog 206 [.int .i64 a0,.int .i64 a1,.int .i64 a2].toArray w (Ret fun u w'=>u=.bool r ∧ Ext w w'):=by
  have hS:=St.begin NB w
  unfold Je at hm
  refine enter Tryz.func206 rfl rfl rfl ?_;intro a H;dsimp only [Qn,Nat.zero_add,Nat.reduceAdd] at H
  refine wp_seq (wp_region_lit (n_q H (Zb rfl) rfl ?_));clear H a;intro a H
  refine Ze (Za (wp_seq (wp_region_lit (n_c H (fun HC=>?_)))));clear H
  refine Zfx HC (Zd rfl) rfl (by kernel_rfl) (V_q (Zd rfl) rfl (by kernel_rfl) (V_q (Zq5 rfl rfl) rfl (by kernel_rfl) (V_q (Zd rfl) rfl (by kernel_rfl) (V_g (Zd rfl) (by kernel_rfl) (by kernel_rfl) (by kernel_rfl) (V_g (Zd rfl) (by kernel_rfl) (by kernel_rfl) (by kernel_rfl) (V_g (Zq5 rfl rfl) (by kernel_rfl) (by kernel_rfl) (by kernel_rfl) (Zrj (j:=3) rfl rfl rfl (by kernel_rfl) (by kernel_rfl) (V_q (Zb rfl) rfl (by kernel_rfl) ?_))))))));clear HC a;intro a HC
  have H:=HC.has;clear HC
  refine Ze (Za (wp_ret ?_))
  obtain rfl:=Option.some.inj hm
  refine Qx H (.inr rfl) rfl rfl ?_
  exact⟨rfl,hS.x⟩
theorem Kp {w : World} {A : Nat → Addr} {cs0 : List Value} {a0 : GValidAsked} {g1 : Nat} {fs1 : List Value} {cp1 : List Value} {a1 : GProc → Option Bool} (h0 : Qj w cs0 a0) (he1 : Zq Tryz.prog g1=true) (hf1 : ∀ w1,Ext w w1 → ∀ (x0 : GProc) (r : Bool),a1 x0=some r → Calls Tryz.prog g1 (fs1 ++ [Value.agg (Xf x0).toArray] ++ cp1).toArray w1 (Ret fun u w'=>u=.bool r ∧ Ext w1 w')) {r : Bool} (hm : Xd a0 a1=some r) :
    Calls Tryz.prog 207 [.agg cs0.toArray,.func (.func g1) fs1.toArray cp1.toArray].toArray w (Ret fun u w'=>u=.bool r ∧ Ext w w'):=by
  obtain⟨aN,aO,aP,aQ,aI,aR,aS,aT,aU,aV,aK,rfl,bB,bC,bD,bE,aB,bF,bG,bH,bI,bJ,bA⟩:=h0
  have hS:=St.begin NB w
  unfold Xd at hm
  refine enter Tryz.func207 rfl rfl rfl ?_;intro a H;dsimp only [Qn,Nat.zero_add,Nat.reduceAdd] at H
  refine wp_seq (wp_region_lit (Yy H rfl (cs:=[.int .i64 a0.p_.Id,.bool a0.p_.Mobile,aN,aO,aP,.int .i64 a0.p_.Events,aQ,.int .i64 a0.s_.Id,.int .i64 a0.s_.Frame,.int .i64 a0.s_.Epoch,aI,aR,aS,aT,aU,aV,aK]) rfl rfl ?_))
  clear H;intro bQ bR hN aW hs;clear a;intro a H
  replace hS:=hS.newBlk hN aW hs;clear hN hs
  refine n_q H (Zb rfl) rfl ?_;clear H a;intro a H
  refine Ze (Za (wp_seq (wp_seq (wp_region_lit (n_q H (Zc rfl Gj) rfl (W_q (Xh rfl Zaq) rfl (W_q (Zf rfl ((hS.blk 0 rfl).ld Zmt rfl)) rfl ?_)))))));clear H a;intro a H
  obtain⟨bS,bT,aD,bO,bP⟩:=SlR.formV (aB.ext (Zi.mono _) hS.x)
  refine n_q H (Qc Tryz.underlying28 rfl aD) rfl (W_q (Zd rfl) rfl ?_);clear H a;intro a H
  refine Ze (Za (wp_block ?_))
  replace hS:=hS.tk0
  replace hm:=Zj hm;obtain⟨aL,hm,aM⟩:=hm;replace hm:=Ql hm;obtain⟨bK,hm⟩:=hm
  refine Kr (σ:=Nat × Nat) (fun (m,aA)=>[(1,.func (.func g1) fs1.toArray cp1.toArray),(9,aI),(10,.int .i64 ((a0.s_.Procs.length : Nat) : Int)),(11,.int .i64 ((aA : Nat) : Int))]) (fun (m,aA) wl=>Ye (Jv a0 a1) m aA=some aL ∧ St NB w wl []) (fun (m,aA)=>m) (bK,0) H ⟨rfl,rfl,rfl,rfl,trivial⟩ ⟨hm,hS⟩ ?_
  clear H hS hm a;intro xx a bU H hR;obtain⟨m,aA⟩:=xx;simp only [ent,List.map_cons,List.map_nil] at H;(try dsimp only at hR);obtain⟨hm,hS⟩:=hR
  replace hm:=Qh hm;obtain⟨bL,bV,rfl,hm,aF⟩:=hm;try dsimp only [Jv] at hm
  refine wp_seq (wp_region_lit (n_q H (Yc (i:=aA) (j:=a0.s_.Procs.length) rfl rfl) rfl ?_));clear H a;intro a H
  refine Ze (Za (wp_seq (Zn H rfl (fun aE=>?_) (fun aE=>?_))))
  · replace hm:=Zu hm aE
    have bM : aA < a0.s_.Procs.length:=of_decide_eq_true aE
    refine wp_skip (Za (wp_seq (wp_block (wp_seq (wp_region_lit ?_)))))
    replace hm:=Zj hm;obtain⟨aC,aG,hm⟩:=hm
    obtain⟨bN,aJ⟩:=SlR.adV (aB.ext (Zi.mono _) hS.x) aD aG
    refine n_q H (Ug (i:=aA) Tryz.underlying28 Zcx rfl aD aJ rfl (Zb5 aG)) rfl (W_q (Zf rfl (SlR.ldAggV (aB.ext (Zi.mono _) hS.x) aD aJ Zp5 Zcx aG)) rfl ?_);clear H a;intro a H
    refine Jb H Zmu rfl ?_
    clear H;intro bW bX hN aX hs;clear a;intro a H
    replace hS:=hS.newBlk hN aX hs;clear hN hs
    refine Qi H rfl rfl (vs:=(aC.Regs.toList.map (Value.int .u32) ++ [.int .u32 aC.Pc,.int .i64 aC.State,.int .i64 aC.Prio,.int .i64 aC.Wait,.int .i64 aC.Obj])) rfl (Zcx.trans (by simp)) (hS.blk 0 rfl) (by simp) (Zbf _) ?_
    clear H;intro bY hN aY hz;clear a;intro a H;replace hS:=hS.setBlk hN aY;clear hN hz
    refine Ze (Za (wp_seq (wp_region_lit (n_q H (Zd rfl) rfl (W_q (Zf rfl ((hS.blk 0 rfl).ldAll Zp5 (Zcx.trans (by simp)))) rfl ?_)))));clear H a;intro a H
    replace hm:=Zj hm;obtain⟨bZ,aZ,hm⟩:=hm
    refine Zeu H rfl rfl he1 (hf1 _ hS.x aC _ aZ) rfl ?_
    clear H;intro b6 b7 hv;clear a;intro a H;obtain⟨rfl,a9⟩:=hv
    replace hS:=hS.ext a9
    refine n_q H (Zb1 rfl) rfl ?_;clear H a;intro a H
    refine Ze (Za (Zn H rfl (fun aH=>?_) (fun aH=>?_)))
    · replace hm:=Zu hm aH
      refine wp_seq (wp_region_lit (n_q H (Zb rfl) rfl ?_));clear H a;intro a H
      refine Ze (Za (wp_ret (Zl (Zh (Zh (Zl (Zh ?_)))))))
      obtain rfl:=Option.some.inj hm;have hz : _=aL:=aF;subst hz;replace hm:=aM;try dsimp only at hm
      obtain rfl:=Option.some.inj hm
      replace hS:=hS.tk0
      refine Qx H (.inr rfl) rfl rfl ?_
      exact⟨rfl,hS.x⟩
    replace hm:=Zv hm aH
    refine wp_skip (Zo (Za (wp_region_lit (n_q H (Yt (i:=aA) (j:=1) rfl rfl (by omega)) rfl (W_q (Zd rfl) rfl ?_)))));clear H a;intro a H
    refine Ze (Za ?_)
    obtain rfl:=Option.some.inj hm
    replace hS:=hS.tk0
    exact Uz (bL,aA + 1) H ⟨rfl,rfl,rfl,rfl,trivial⟩ ⟨aF,hS⟩ (Nat.lt_succ_self _)
  replace hm:=Zv hm aE
  refine wp_exit (Zr (Zr (Qf ?_)))
  obtain rfl:=Option.some.inj hm;have hz : _=aL:=aF;subst hz;replace hm:=aM;try dsimp only at hm
  refine Za (wp_seq (wp_region_lit (n_q H (Zb rfl) rfl ?_)));clear H a;intro a H
  refine Ze (Za (wp_ret ?_))
  obtain rfl:=Option.some.inj hm
  refine Qx H (.inr rfl) rfl rfl ?_
  exact⟨rfl,hS.x⟩
theorem Zf6 {w : World} {A : Nat → Addr} {a0 : GProc} {r : Bool} (hm : Uw a0=some r) :
    Calls Tryz.prog 208 [.agg (Xf a0).toArray].toArray w (Ret fun u w'=>u=.bool r ∧ Ext w w'):=by
  have hS:=St.begin NB w
  unfold Uw at hm
  refine enter Tryz.func208 rfl rfl rfl ?_;intro a H;dsimp only [Qn,Nat.zero_add,Nat.reduceAdd] at H
  refine wp_seq (wp_region_lit (Yy H rfl (cs:=(a0.Regs.toList.map (Value.int .u32) ++ [.int .u32 a0.Pc,.int .i64 a0.State,.int .i64 a0.Prio,.int .i64 a0.Wait,.int .i64 a0.Obj])) rfl rfl ?_))
  clear H;intro aP aQ hN aE hs;clear a;intro a H
  replace hS:=hS.newBlk hN aE hs;clear hN hs
  refine n_q H (Zb rfl) rfl ?_;clear H a;intro a H
  refine Ze (Za (wp_seq (wp_region_lit (n_q H (Zc rfl Zt6) rfl ?_))));clear H a;intro a H
  replace hm:=Zj hm;obtain⟨aM,aF,hm⟩:=hm
  obtain⟨h0x24,h1x24,aD⟩:=Zgw aF
  refine n_q H (Zjq Tryz.underlying142 Zp4 rfl rfl h0x24 h1x24) rfl (W_q (Zf rfl ((hS.blk 0 rfl).ld Zto (Ztk (f:=(Value.int .u32)) aD))) rfl (W_q (Jy rfl rfl) rfl (W_q (Zd rfl) rfl ?_)));clear H a;intro a H
  rcases Bool.eq_false_or_eq_true (decide (aM=0)) with aA|aA
  · replace H:=H.know 7 rfl aA
    replace hm:=Zu hm aA
    refine Kq H rfl rfl (n_q H (Zc rfl Ze2) rfl (Zy rfl rfl (W_q (Zf rfl ((hS.blk 0 rfl).ld (v:=Value.int .i64 a0.State) ag3 (by simp))) rfl (Zy rfl rfl ?_))));clear H a;intro a H
    replace hm:=Zj hm;obtain⟨aN,aG,hm⟩:=hm
    refine Zk H rfl Zlc (Ko (A:=A) aG) rfl ?_
    clear H;intro aR aS hv;clear a;intro a H;obtain⟨rfl,aH⟩:=hv
    replace hS:=hS.ext aH
    refine n_q H (Zx rfl rfl) rfl (W_q (Zd rfl) rfl ?_);clear H a;intro a H
    rcases Bool.eq_false_or_eq_true aN with aB|aB
    · replace H:=H.know 12 rfl aB
      replace hm:=Zu hm aB
      refine Kq H rfl rfl (n_q H (Zc rfl Zp7) rfl (Zy rfl rfl (W_q (Zf rfl ((hS.blk 0 rfl).ld (v:=Value.int .i64 a0.Prio) ag3 (by simp))) rfl (Zy rfl rfl ?_))));clear H a;intro a H
      replace hm:=Zj hm;obtain⟨aO,aI,hm⟩:=hm
      refine Zk H rfl Zlc (Ko (A:=A) aI) rfl ?_
      clear H;intro aT aU hv;clear a;intro a H;obtain⟨rfl,aJ⟩:=hv
      replace hS:=hS.ext aJ
      refine n_q H (Zx rfl rfl) rfl (W_q (Zd rfl) rfl ?_);clear H a;intro a H
      rcases Bool.eq_false_or_eq_true aO with aC|aC
      · replace H:=H.know 17 rfl aC
        replace hm:=Zu hm aC
        refine Kq H rfl rfl (n_q H (Zc rfl Ze4) rfl (Zy rfl rfl (W_q (Zf rfl ((hS.blk 0 rfl).ld (v:=Value.int .i64 a0.Wait) ag3 (by simp))) rfl (Zy rfl rfl ?_))));clear H a;intro a H
        replace hm:=Zj hm;obtain⟨aV,aK,hm⟩:=hm
        refine Zk H rfl Zlc (Ko (A:=A) aK) rfl ?_
        clear H;intro aW aX hv;clear a;intro a H;obtain⟨rfl,aL⟩:=hv
        replace hS:=hS.ext aL
        refine n_q H (Zx rfl rfl) rfl (W_q (Zb rfl) rfl ?_);clear H a;intro a H
        refine Ze (Za (wp_ret ?_))
        obtain rfl:=Option.some.inj hm
        replace hS:=hS.tk0
        refine Qx H (.inr rfl) rfl rfl ?_
        exact⟨rfl,hS.x⟩
      replace H:=H.know 17 rfl aC
      replace hm:=Zv hm aC
      refine Tp H rfl rfl (by decide) rfl (Zz rfl rfl (by decide) rfl (Zz rfl rfl (by decide) rfl (W_q (Zt rfl rfl) rfl (W_q (Zb rfl) rfl ?_))));clear H a;intro a H
      refine Ze (Za (wp_ret ?_))
      obtain rfl:=Option.some.inj hm
      replace hS:=hS.tk0
      refine Qx H (.inr rfl) rfl rfl ?_
      exact⟨rfl,hS.x⟩
    replace H:=H.know 12 rfl aB
    replace hm:=Zv hm aB
    refine Tp H rfl rfl (by decide) rfl (Zz rfl rfl (by decide) rfl (Zz rfl rfl (by decide) rfl (W_q (Zt rfl rfl) rfl (W_q (Zd rfl) rfl (Zz rfl rfl (by decide) rfl (Zz rfl rfl (by decide) rfl (Zz rfl rfl (by decide) rfl (W_q (Zt rfl rfl) rfl (W_q (Zb rfl) rfl ?_)))))))));clear H a;intro a H
    refine Ze (Za (wp_ret ?_))
    obtain rfl:=Option.some.inj hm
    replace hS:=hS.tk0
    refine Qx H (.inr rfl) rfl rfl ?_
    exact⟨rfl,hS.x⟩
  replace H:=H.know 7 rfl aA
  replace hm:=Zv hm aA
  refine Tp H rfl rfl (by decide) rfl (Zz rfl rfl (by decide) rfl (Zz rfl rfl (by decide) rfl (W_q (Zt rfl rfl) rfl (W_q (Zd rfl) rfl (Zz rfl rfl (by decide) rfl (Zz rfl rfl (by decide) rfl (Zz rfl rfl (by decide) rfl (W_q (Zt rfl rfl) rfl (W_q (Zd rfl) rfl (Zz rfl rfl (by decide) rfl (Zz rfl rfl (by decide) rfl ?_)))))))))));clear H a;intro a H
  refine Tp H rfl rfl (by decide) rfl (W_q (Zt rfl rfl) rfl (W_q (Zb rfl) rfl ?_));clear H a;intro a H
  refine Ze (Za (wp_ret ?_))
  obtain rfl:=Option.some.inj hm
  replace hS:=hS.tk0
  refine Qx H (.inr rfl) rfl rfl ?_
  exact⟨rfl,hS.x⟩
theorem Zcz {w : World} {A : Nat → Addr} {a0 : GProc} {r : Bool} (hm : Yw a0=some r) :
    Calls Tryz.prog 209 [.agg (Xf a0).toArray].toArray w (Ret fun u w'=>u=.bool r ∧ Ext w w'):=by
  have hS:=St.begin NB w
  unfold Yw at hm
  refine enter Tryz.func209 rfl rfl rfl ?_;intro a H;dsimp only [Qn,Nat.zero_add,Nat.reduceAdd] at H
  refine wp_seq (wp_region_lit (Yy H rfl (cs:=(a0.Regs.toList.map (Value.int .u32) ++ [.int .u32 a0.Pc,.int .i64 a0.State,.int .i64 a0.Prio,.int .i64 a0.Wait,.int .i64 a0.Obj])) rfl rfl ?_))
  clear H;intro aB aC hN aA hs;clear a;intro a H
  replace hS:=hS.newBlk hN aA hs;clear hN hs
  refine n_q H (Zb rfl) rfl ?_;clear H a;intro a H
  refine Ze (Za (wp_seq (wp_region_lit (n_q H (Zc rfl Ze4) rfl (W_q (Zf rfl ((hS.blk 0 rfl).ld (v:=Value.int .i64 a0.Wait) ag3 (by simp))) rfl (W_q (Th rfl rfl) rfl (W_q (Zc rfl Ze2) rfl (W_q (Zf rfl ((hS.blk 0 rfl).ld (v:=Value.int .i64 a0.State) ag3 (by simp))) rfl (W_q (Jy rfl rfl) rfl (W_q (Zsv Tryz.underlying4 rfl rfl) rfl (W_q (Zb rfl) rfl ?_)))))))))));clear H a;intro a H
  refine Ze (Za (wp_ret ?_))
  obtain rfl:=Option.some.inj hm
  replace hS:=hS.tk0
  refine Qx H (.inr rfl) rfl rfl ?_
  exact⟨rfl,hS.x⟩
theorem Kc {w : World} {A : Nat → Addr} {a0 : Int} {a1 : Int} {r : Bool} (hm : Jf a0 a1=some r) :
    Calls Tryz.prog 223 [.int .i64 a0,.int .i64 a1].toArray w (Ret fun u w'=>u=.bool r ∧ Ext w w'):=by
  have hS:=St.begin NB w
  unfold Jf at hm
  refine enter Tryz.func223 rfl rfl rfl ?_;intro a H;dsimp only [Qn,Nat.zero_add,Nat.reduceAdd] at H
  refine wp_seq (wp_region_lit (n_q H (Zb rfl) rfl ?_));clear H a;intro a H
  refine Ze (Za (wp_seq (wp_region_lit (n_c H (fun HC=>?_)))));clear H
  refine Zfx HC (Zd rfl) rfl (by kernel_rfl) (V_q (Zob rfl rfl) rfl (by kernel_rfl) (V_q (Zd rfl) rfl (by kernel_rfl) (V_g (Zd rfl) (by kernel_rfl) (by kernel_rfl) (by kernel_rfl) (V_g (Zd rfl) (by kernel_rfl) (by kernel_rfl) (by kernel_rfl) (V_g (Za5 rfl rfl) (by kernel_rfl) (by kernel_rfl) (by kernel_rfl) (Zrj (j:=2) rfl rfl rfl (by kernel_rfl) (by kernel_rfl) (V_q (Zb rfl) rfl (by kernel_rfl) ?_)))))));clear HC a;intro a HC
  have H:=HC.has;clear HC
  refine Ze (Za (wp_ret ?_))
  obtain rfl:=Option.some.inj hm
  refine Qx H (.inr rfl) rfl rfl ?_
  exact⟨rfl,hS.x⟩
theorem Zdc {w : World} {A : Nat → Addr} {cs0 : List Value} {a0 : GValidAsked} {a1 : GProc} (h0 : Qj w cs0 a0) {r : Bool} (hm : Ya a0 a1=some r) :
    Calls Tryz.prog 210 [.agg cs0.toArray,.agg (Xf a1).toArray].toArray w (Ret fun u w'=>u=.bool r ∧ Ext w w'):=by
  obtain⟨aN,aO,aP,aQ,aR,aS,aT,aU,aV,aW,aL,rfl,bI,bJ,aA,aM,bK,bL,bM,bN,bO,bP,bH⟩:=h0
  have hS:=St.begin NB w
  unfold Ya at hm
  refine enter Tryz.func210 rfl rfl rfl ?_;intro a H;dsimp only [Qn,Nat.zero_add,Nat.reduceAdd] at H
  refine wp_seq (wp_region_lit (Yy H rfl (cs:=[.int .i64 a0.p_.Id,.bool a0.p_.Mobile,aN,aO,aP,.int .i64 a0.p_.Events,aQ,.int .i64 a0.s_.Id,.int .i64 a0.s_.Frame,.int .i64 a0.s_.Epoch,aR,aS,aT,aU,aV,aW,aL]) rfl rfl ?_))
  clear H;intro bY bZ hN aX hs;clear a;intro a H
  replace hS:=hS.newBlk hN aX hs;clear hN hs
  refine Yy H rfl (cs:=(a1.Regs.toList.map (Value.int .u32) ++ [.int .u32 a1.Pc,.int .i64 a1.State,.int .i64 a1.Prio,.int .i64 a1.Wait,.int .i64 a1.Obj])) rfl rfl ?_
  clear H;intro b6 b7 hN aY hs;clear a;intro a H
  replace hS:=hS.newBlk hN aY hs;clear hN hs
  refine n_q H (Zb rfl) rfl ?_;clear H a;intro a H
  refine Ze (Za (wp_seq (wp_seq (wp_region_lit (n_q H (Zc rfl Ze4) rfl (W_q (Zf rfl ((hS.blk 0 rfl).ld (v:=Value.int .i64 a1.Wait) ag3 (by simp))) rfl ?_))))));clear H a;intro a H
  refine Ze (Za (wp_block (wp_seq (wp_region_lit (n_q H (Jy rfl rfl) rfl (W_q (Zb rfl) rfl ?_))))));clear H a;intro a H
  refine Ze (Za (Zn H rfl (fun aE=>?_) (fun aE=>?_)))
  · replace hm:=Zu hm aE
    refine wp_seq (wp_region_lit (n_q H (Zc rfl Zad) rfl (W_q (Zf rfl ((hS.blk 0 rfl).ld (v:=Value.int .i64 a1.Obj) ag3 (by simp))) rfl (W_q (Zc rfl Zaz) rfl (W_q (Zc rfl Zdq) rfl (W_q (Zf rfl ((hS.blk 1 rfl).ld ag3 rfl)) rfl ?_))))));clear H a;intro a H
    replace hm:=Zj hm;obtain⟨b8,aZ,hm⟩:=hm
    refine Zk H rfl Zj6 (Kc (A:=A) aZ) rfl ?_
    clear H;intro b9 cA hv;clear a;intro a H;obtain⟨rfl,a9⟩:=hv
    replace hS:=hS.ext a9
    refine n_q H (Zb rfl) rfl ?_;clear H a;intro a H
    refine Ze (Za (wp_ret (Zl (Zh ?_))))
    obtain rfl:=Option.some.inj hm
    replace hS:=hS.tk0
    refine Qx H (.inr rfl) rfl rfl ?_
    exact⟨rfl,hS.x⟩
  replace hm:=Zv hm aE
  refine wp_seq (wp_region_lit (n_q H (Jy rfl rfl) rfl (W_q (Zb rfl) rfl ?_)));clear H a;intro a H
  refine Ze (Za (Zn H rfl (fun aF=>?_) (fun aF=>?_)))
  · replace hm:=Zu hm aF
    refine wp_seq (wp_region_lit (n_q H (Zc rfl Zad) rfl (W_q (Zf rfl ((hS.blk 0 rfl).ld (v:=Value.int .i64 a1.Obj) ag3 (by simp))) rfl (W_q (Zc rfl Zaz) rfl (W_q (Zc rfl Zbx) rfl (W_q (Zf rfl ((hS.blk 1 rfl).ld Zil rfl)) rfl ?_))))));clear H a;intro a H
    obtain⟨cB,cC,bA,bU,bV⟩:=SlR.formV (aM.ext (Zi.mono _) hS.x)
    refine n_q H (Qc Tryz.underlying25 rfl bA) rfl ?_;clear H a;intro a H
    replace hm:=Zj hm;obtain⟨cD,bB,hm⟩:=hm
    refine Zk H rfl Zj6 (Kc (A:=A) bB) rfl ?_
    clear H;intro cF cG hv;clear a;intro a H;obtain⟨rfl,bC⟩:=hv
    replace hS:=hS.ext bC
    refine n_q H (Zb rfl) rfl ?_;clear H a;intro a H
    refine Ze (Za (wp_ret (Zl (Zh ?_))))
    obtain rfl:=Option.some.inj hm
    replace hS:=hS.tk0
    refine Qx H (.inr rfl) rfl rfl ?_
    exact⟨rfl,hS.x⟩
  replace hm:=Zv hm aF
  refine wp_seq (wp_region_lit (n_q H (Jy rfl rfl) rfl (W_q (Zb rfl) rfl ?_)));clear H a;intro a H
  refine Ze (Za (Zn H rfl (fun aG=>?_) (fun aG=>?_)))
  · replace hm:=Zu hm aG
    refine wp_seq (wp_region_lit (n_q H (Zc rfl Zad) rfl (W_q (Zf rfl ((hS.blk 0 rfl).ld (v:=Value.int .i64 a1.Obj) ag3 (by simp))) rfl (W_q (Zc rfl Zaz) rfl (W_q (Zc rfl Tu) rfl (W_q (Zf rfl ((hS.blk 1 rfl).ld Zk2 rfl)) rfl ?_))))));clear H a;intro a H
    obtain⟨cH,cI,aB,bW,bX⟩:=SlR.formV (aA.ext (Zi.mono _) hS.x)
    refine n_q H (Qc Tryz.underlying24 rfl aB) rfl ?_;clear H a;intro a H
    replace hm:=Zj hm;obtain⟨bQ,bD,hm⟩:=hm
    refine Zk H rfl Zj6 (Kc (A:=A) bD) rfl ?_
    clear H;intro cJ cK hv;clear a;intro a H;obtain⟨rfl,bE⟩:=hv
    replace hS:=hS.ext bE
    refine n_q H (Zd rfl) rfl ?_;clear H a;intro a H
    rcases Bool.eq_false_or_eq_true bQ with aC|aC
    · replace H:=H.know 33 rfl aC
      replace hm:=Zu hm aC
      refine Kq H rfl rfl (n_q H (Zc rfl Zaz) rfl (Zy rfl rfl (W_q (Zc rfl Tu) rfl (Zy rfl rfl (W_q (Zf rfl ((hS.blk 1 rfl).ld Zk2 rfl)) rfl (Zy rfl rfl (W_q (Zc rfl Zad) rfl (Zy rfl rfl (W_q (Zf rfl ((hS.blk 0 rfl).ld (v:=Value.int .i64 a1.Obj) ag3 (by simp))) rfl (Zy rfl rfl ?_))))))))));clear H a;intro a H
      replace hm:=Zj hm;obtain⟨bR,bF,hm⟩:=hm
      obtain⟨h0x45,h1x45,aH⟩:=Ho bF
      obtain⟨bS,aI⟩:=SlR.adV (aA.ext (Zi.mono _) hS.x) aB aH
      refine n_q H (Zch Tryz.underlying24 Gp rfl aB aI rfl h0x45 h1x45) rfl (Zy rfl rfl (W_q (Vg rfl Tt) rfl (Zy rfl rfl (W_q (Zf rfl (SlR.ldCellV (j:=0) (aA.ext (Zi.mono _) hS.x) aB aI ag3 aH rfl)) rfl (Zy rfl rfl (W_q (Jy rfl rfl) rfl (Zy rfl rfl (W_q (Zd rfl) rfl ?_))))))));clear H a;intro a H
      rcases Bool.eq_false_or_eq_true (decide (bR.Kind=3)) with aD|aD
      · replace H:=H.know 43 rfl aD
        replace hm:=Zu hm aD
        refine Tp H rfl rfl (by decide) rfl (Zz rfl rfl (by decide) rfl (Zz rfl rfl (by decide) rfl (Zz rfl rfl (by decide) rfl (Zz rfl rfl (by decide) rfl (Zz rfl rfl (by decide) rfl (Zz rfl rfl (by decide) rfl (Zz rfl rfl (by decide) rfl (Zz rfl rfl (by decide) rfl (Zy rfl rfl (W_q (Zx rfl rfl) rfl (W_q (Zx rfl rfl) rfl ?_)))))))))));clear H a;intro a H
        refine n_q H (Zb rfl) rfl ?_;clear H a;intro a H
        refine Ze (Za (wp_ret (Zl (Zh ?_))))
        obtain rfl:=Option.some.inj hm
        replace hS:=hS.tk0
        refine Qx H (.inr rfl) rfl rfl ?_
        exact⟨rfl,hS.x⟩
      replace H:=H.know 43 rfl aD
      replace hm:=Zv hm aD
      refine Kq H rfl rfl (n_q H (Zc rfl Zaz) rfl (Zy rfl rfl (W_q (Zc rfl Tu) rfl (Zy rfl rfl (W_q (Zf rfl ((hS.blk 1 rfl).ld Zk2 rfl)) rfl (Zy rfl rfl (W_q (Zc rfl Zad) rfl (Zy rfl rfl (W_q (Zf rfl ((hS.blk 0 rfl).ld (v:=Value.int .i64 a1.Obj) ag3 (by simp))) rfl (Zy rfl rfl ?_))))))))));clear H a;intro a H
      replace hm:=Zj hm;obtain⟨cL,bG,hm⟩:=hm
      obtain⟨h0x47,h1x47,aJ⟩:=Ho bG
      obtain⟨bT,aK⟩:=SlR.adV (aA.ext (Zi.mono _) hS.x) aB aJ
      refine n_q H (Zch Tryz.underlying24 Gp rfl aB aK rfl h0x47 h1x47) rfl (Zy rfl rfl (W_q (Vg rfl Tt) rfl (Zy rfl rfl (W_q (Zf rfl (SlR.ldCellV (j:=0) (aA.ext (Zi.mono _) hS.x) aB aK ag3 aJ rfl)) rfl (Zy rfl rfl (W_q (Jy rfl rfl) rfl (Zy rfl rfl (W_q (Zt rfl rfl) rfl (W_q (Zx rfl rfl) rfl (W_q (Zb rfl) rfl ?_))))))))));clear H a;intro a H
      refine Ze (Za (wp_ret (Zl (Zh ?_))))
      obtain rfl:=Option.some.inj hm
      replace hS:=hS.tk0
      refine Qx H (.inr rfl) rfl rfl ?_
      exact⟨rfl,hS.x⟩
    replace H:=H.know 33 rfl aC
    replace hm:=Zv hm aC
    refine Tp H rfl rfl (by decide) rfl (Zz rfl rfl (by decide) rfl (Zz rfl rfl (by decide) rfl (Zz rfl rfl (by decide) rfl (Zz rfl rfl (by decide) rfl (Zz rfl rfl (by decide) rfl (Zz rfl rfl (by decide) rfl (Zz rfl rfl (by decide) rfl (Zz rfl rfl (by decide) rfl (Zz rfl rfl (by decide) rfl (Zcl rfl rfl rfl (Zcl rfl rfl rfl ?_)))))))))));clear H a;intro a H
    refine Zti H rfl rfl rfl (Zcl rfl rfl rfl (Zcl rfl rfl rfl (Zcl rfl rfl rfl (Zcl rfl rfl rfl (Zcl rfl rfl rfl (Zcl rfl rfl rfl (Zz rfl rfl (by decide) rfl (W_q (Zt rfl rfl) rfl (W_q (Zb rfl) rfl ?_)))))))));clear H a;intro a H
    refine Ze (Za (wp_ret (Zl (Zh ?_))))
    obtain rfl:=Option.some.inj hm
    replace hS:=hS.tk0
    refine Qx H (.inr rfl) rfl rfl ?_
    exact⟨rfl,hS.x⟩
  replace hm:=Zv hm aG
  refine wp_skip (Zo (Za (wp_seq (wp_region_lit (n_q H (Zc rfl Zad) rfl (W_q (Zf rfl ((hS.blk 0 rfl).ld (v:=Value.int .i64 a1.Obj) ag3 (by simp))) rfl (W_q (Jy rfl rfl) rfl (W_q (Zb rfl) rfl ?_))))))));clear H a;intro a H
  refine Ze (Za (wp_ret ?_))
  obtain rfl:=Option.some.inj hm
  replace hS:=hS.tk0
  refine Qx H (.inr rfl) rfl rfl ?_
  exact⟨rfl,hS.x⟩
theorem Zdw {w : World} {A : Nat → Addr} {cs0 : List Value} {a0 : GValidAsked} (h0 : Qj w cs0 a0) {r : Bool} (hm : Wo a0=some r) :
    Calls Tryz.prog 211 [.agg cs0.toArray].toArray w (Ret fun u w'=>u=.bool r ∧ Ext w w'):=by
  obtain⟨aS,aT,aU,aV,aG,aH,aW,aX,aY,aZ,aP,rfl,cD,cF,cG,cH,aB,aQ,cI,cJ,cK,cL,cC⟩:=h0
  have hS:=St.begin NB w
  unfold Wo at hm
  refine enter Tryz.func211 rfl rfl rfl ?_;intro a H;dsimp only [Qn,Nat.zero_add,Nat.reduceAdd] at H
  refine wp_seq (wp_region_lit (Yy H rfl (cs:=[.int .i64 a0.p_.Id,.bool a0.p_.Mobile,aS,aT,aU,.int .i64 a0.p_.Events,aV,.int .i64 a0.s_.Id,.int .i64 a0.s_.Frame,.int .i64 a0.s_.Epoch,aG,aH,aW,aX,aY,aZ,aP]) rfl rfl ?_))
  clear H;intro bM dN hN b6 hs;clear a;intro a H
  replace hS:=hS.newBlk hN b6 hs;clear hN hs
  refine n_q H (Zb rfl) rfl ?_;clear H a;intro a H
  refine Ze (Za (wp_seq (wp_region_lit (Zhk H rfl ?_))));clear H;intro aK dO hN b7 hs;clear a;intro a H;replace hS:=hS.newMap hN b7 hs;clear hN hs
  refine n_q H (Zb rfl) rfl ?_;clear H a;intro a H
  refine Ze (Za (wp_seq (wp_seq (wp_region_lit (n_q H (Zc rfl Gj) rfl (W_q (Xh rfl Zi8) rfl (W_q (Zf rfl ((hS.blk 1 rfl).ld Zil rfl)) rfl ?_)))))));clear H a;intro a H
  obtain⟨dP,dQ,a9,c7,c9⟩:=SlR.formV (aQ.ext (Zi.mono _) hS.x)
  refine n_q H (Qc Tryz.underlying25 rfl a9) rfl (W_q (Zd rfl) rfl ?_);clear H a;intro a H
  refine Ze (Za (wp_block ?_))
  replace hm:=Zj hm;obtain⟨bR,hm,bS⟩:=hm;replace hm:=Ql hm;obtain⟨cM,hm⟩:=hm
  refine Kr (σ:=Nat × (List Int) × Nat) (fun (m,aC,aD)=>[(1,.pointer (some ⟨bM,0,none⟩)),(3,.map (some aK)),(11,aH),(12,.int .i64 ((a0.s_.Ready.length : Nat) : Int)),(13,.int .i64 ((aD : Nat) : Int))]) (fun (m,aC,aD) wl=>Ye (Jl a0) m (aC,aD)=some bR ∧ St NB w wl [mapR aK aC,blkR bM [.int .i64 a0.p_.Id,.bool a0.p_.Mobile,aS,aT,aU,.int .i64 a0.p_.Events,aV,.int .i64 a0.s_.Id,.int .i64 a0.s_.Frame,.int .i64 a0.s_.Epoch,aG,aH,aW,aX,aY,aZ,aP] 219]) (fun (m,aC,aD)=>m) (cM,([] : List Int),0) H ⟨rfl,rfl,rfl,rfl,rfl,trivial⟩ ⟨hm,hS⟩ ?_
  clear H hS hm a;intro xx a dR H hR;obtain⟨m,aC,aD⟩:=xx;simp only [ent,List.map_cons,List.map_nil] at H;(try dsimp only at hR);obtain⟨hm,hS⟩:=hR
  replace hm:=Qh hm;obtain⟨cN,cO,rfl,hm,bI⟩:=hm;try dsimp only [Jl] at hm
  refine wp_seq (wp_region_lit (n_q H (Yc (i:=aD) (j:=a0.s_.Ready.length) rfl rfl) rfl ?_));clear H a;intro a H
  refine Ze (Za (wp_seq (Zn H rfl (fun bA=>?_) (fun bA=>?_))))
  · replace hm:=Zu hm bA
    have cT : aD < a0.s_.Ready.length:=of_decide_eq_true bA
    refine wp_skip (Za (wp_seq (wp_block (wp_seq (wp_region_lit ?_)))))
    replace hm:=Zj hm;obtain⟨bN,bJ,hm⟩:=hm
    obtain⟨cU,bO⟩:=SlR.adV (aQ.ext (Zi.mono _) hS.x) a9 bJ
    refine n_q H (Ug (i:=aD) Tryz.underlying25 sz3 rfl a9 bO rfl (Zb5 bJ)) rfl (W_q (Zf rfl (SlR.ldOneV (aQ.ext (Zi.mono _) hS.x) a9 bO ag3 bJ rfl)) rfl (W_q (Zb rfl) rfl ?_));clear H a;intro a H
    refine Ze (Za (wp_seq ?_))
    replace hm:=Zj hm;obtain⟨dS,hm,bK⟩:=hm
    refine Gm (σ:=Bool) H (fun bB=>[(1,.pointer (some ⟨bM,0,none⟩)),(3,.map (some aK)),(5,.int .i64 bN),(11,aH),(12,.int .i64 ((a0.s_.Ready.length : Nat) : Int)),(13,.int .i64 ((aD : Nat) : Int)),(38,.bool bB)]) (fun bB wl=>(Vv aC aD bN) bB=some cO ∧ St NB w wl [mapR aK aC,blkR bM [.int .i64 a0.p_.Id,.bool a0.p_.Mobile,aS,aT,aU,.int .i64 a0.p_.Events,aV,.int .i64 a0.s_.Id,.int .i64 a0.s_.Frame,.int .i64 a0.s_.Epoch,aG,aH,aW,aX,aY,aZ,aP] 219]) ?_ ?_
    · skip
      refine wp_region_lit (n_q H (Zd rfl) rfl (W_q (Zc rfl Gj) rfl (W_q (Xh rfl Zaq) rfl (W_q (Zf rfl ((hS.blk 1 rfl).ld Zmt rfl)) rfl ?_))));clear H a;intro a H
      obtain⟨dA,dB,aL,cV,cW⟩:=SlR.formV (aB.ext (Zi.mono _) hS.x)
      refine n_q H (Qc Tryz.underlying28 rfl aL) rfl ?_;clear H a;intro a H
      replace hm:=Zj hm;obtain⟨b8,bU,hm⟩:=hm
      refine Zk H rfl Zj6 (Kc (A:=A) bU) rfl ?_
      clear H;intro dC dD hv;clear a;intro a H;obtain⟨rfl,bV⟩:=hv
      replace hS:=hS.ext bV
      refine n_q H (Zb1 rfl) rfl (W_q (Zd rfl) rfl ?_);clear H a;intro a H
      rcases Bool.eq_false_or_eq_true (!b8) with aI|aI
      · replace H:=H.know 24 rfl aI
        replace hm:=Zu hm aI
        refine Tp H rfl rfl (by decide) rfl (Zz rfl rfl (by decide) rfl (Zz rfl rfl (by decide) rfl (W_q (Zx rfl rfl) rfl (W_q (Zd rfl) rfl (Zz rfl rfl (by decide) rfl (Zz rfl rfl (by decide) rfl (Zz rfl rfl (by decide) rfl (Zz rfl rfl (by decide) rfl (Zz rfl rfl (by decide) rfl (Zz rfl rfl (by decide) rfl (Zz rfl rfl (by decide) rfl ?_)))))))))));clear H a;intro a H
        refine Tp H rfl rfl (by decide) rfl (W_q (Zx rfl rfl) rfl ?_);clear H a;intro a H
        refine Ze (Za ?_)
        obtain rfl:=Option.some.inj hm;replace hm:=bK;try dsimp only at hm
        exact Uy true H ⟨rfl,rfl,rfl,rfl,rfl,rfl,rfl,trivial⟩ ⟨hm,hS⟩
      replace H:=H.know 24 rfl aI
      replace hm:=Zv hm aI
      refine Kq H rfl rfl (n_q H (Zd rfl) rfl (Zy rfl rfl (W_q (Zd rfl) rfl (Zy rfl rfl (W_q (Zgx Tryz.underlying330 Tryz.underlying3 (fun w=>by kernel_rfl) (hS.map 0 rfl) rfl rfl) rfl (W_q (Zt rfl rfl) rfl (W_q (Zd rfl) rfl ?_)))))));clear H a;intro a H
      rcases Bool.eq_false_or_eq_true (decide (bN ∈ aC)) with aJ|aJ
      · replace H:=H.know 29 rfl aJ
        replace hm:=Zu hm aJ
        refine Tp H rfl rfl (by decide) rfl (Zz rfl rfl (by decide) rfl (Zz rfl rfl (by decide) rfl (Zz rfl rfl (by decide) rfl (Zz rfl rfl (by decide) rfl (Zz rfl rfl (by decide) rfl (Zz rfl rfl (by decide) rfl (Zz rfl rfl (by decide) rfl (W_q (Zx rfl rfl) rfl ?_))))))));clear H a;intro a H
        refine Ze (Za ?_)
        obtain rfl:=Option.some.inj hm;replace hm:=bK;try dsimp only at hm
        exact Uy true H ⟨rfl,rfl,rfl,rfl,rfl,rfl,rfl,trivial⟩ ⟨hm,hS⟩
      replace H:=H.know 29 rfl aJ
      replace hm:=Zv hm aJ
      refine Kq H rfl rfl (n_q H (Zc rfl Gj) rfl (Zy rfl rfl (W_q (Xh rfl Zaq) rfl (Zy rfl rfl (W_q (Zf rfl ((hS.blk 1 rfl).ld Zmt rfl)) rfl (Zy rfl rfl (W_q (Zd rfl) rfl (Zy rfl rfl ?_))))))));clear H a;intro a H
      replace hm:=Zj hm;obtain⟨bT,bW,hm⟩:=hm
      obtain⟨h0x546,h1x546,bF⟩:=Ho bW
      obtain⟨cP,bG⟩:=SlR.adV (aB.ext (Zi.mono _) hS.x) aL bF
      refine n_q H (Zch Tryz.underlying28 Zcx rfl aL bG rfl h0x546 h1x546) rfl (Zy rfl rfl (W_q (Vg rfl Ze2) rfl (Zy rfl rfl (W_q (Zf rfl (SlR.ldCellV (j:=17) (u:=Value.int .i64 bT.State) (aB.ext (Zi.mono _) hS.x) aL bG ag3 bF (by simp [Xf]))) rfl (Zy rfl rfl (W_q (Th rfl rfl) rfl (W_q (Zt rfl rfl) rfl ?_)))))));clear H a;intro a H
      refine Ze (Za ?_)
      obtain rfl:=Option.some.inj hm;replace hm:=bK;try dsimp only at hm
      exact Uy (!decide (bT.State=1)) H ⟨rfl,rfl,rfl,rfl,rfl,rfl,rfl,trivial⟩ ⟨hm,hS⟩
    clear H hS hm a;intro bB a dE H hR
    simp only [ent,List.map_cons,List.map_nil] at H;(try dsimp only at hR);obtain⟨hm,hS⟩:=hR;try dsimp only [Vv] at hm
    refine Zn H rfl (fun bC=>?_) (fun bC=>?_)
    · replace hm:=Zu hm bC
      refine wp_seq (wp_region_lit (n_q H (Zb rfl) rfl ?_));clear H a;intro a H
      refine Ze (Za (wp_ret (Zh (Zl (Zh (Zh (Zl (Zh ?_))))))))
      obtain rfl:=Option.some.inj hm;have hz : _=bR:=bI;subst hz;replace hm:=bS;try dsimp only at hm
      obtain rfl:=Option.some.inj hm
      replace hS:=hS.tk0
      refine Qx H (.inr rfl) rfl rfl ?_
      exact⟨rfl,hS.x⟩
    replace hm:=Zv hm bC
    refine wp_skip (Za (wp_region_lit (n_q H (Zd rfl) rfl (W_q (Zd rfl) rfl ?_))));clear H a;intro a H
    refine Zey H Tryz.underlying330 Tryz.underlying3 (hS.map 0 rfl) rfl rfl ?_;clear H;intro dF hN bX;clear a;intro a H;replace hS:=hS.setMap hN bX;clear hN
    refine Ze (Zo (Za (wp_region_lit (n_q H (Yt (i:=aD) (j:=1) rfl rfl (by omega)) rfl (W_q (Zd rfl) rfl ?_)))));clear H a;intro a H
    refine Ze (Za ?_)
    obtain rfl:=Option.some.inj hm
    exact Uz (cN,(Zjr aC bN),aD + 1) H ⟨rfl,rfl,rfl,rfl,rfl,trivial⟩ ⟨bI,hS⟩ (Nat.lt_succ_self _)
  replace hm:=Zv hm bA
  refine wp_exit (Zr (Zr (Qf ?_)))
  obtain rfl:=Option.some.inj hm;have hz : _=bR:=bI;subst hz;replace hm:=bS;try dsimp only at hm
  refine Za (wp_seq (wp_seq (wp_region_lit (n_q H (Zc rfl Gj) rfl (W_q (Xh rfl Zaq) rfl (W_q (Zf rfl ((hS.blk 1 rfl).ld Zmt rfl)) rfl ?_))))));clear H a;intro a H
  obtain⟨dG,dH,aM,cX,cY⟩:=SlR.formV (aB.ext (Zi.mono _) hS.x)
  refine n_q H (Qc Tryz.underlying28 rfl aM) rfl (W_q (Zd rfl) rfl ?_);clear H a;intro a H
  refine Ze (Za (wp_block ?_))
  replace hS:=hS.tk1
  replace hm:=Zj hm;obtain⟨bL,hm,bP⟩:=hm;replace hm:=Ql hm;obtain⟨b9,hm⟩:=hm
  refine Kr (σ:=Nat × Nat) (fun (m,aA)=>[(3,.map (some aK)),(44,aG),(45,.int .i64 ((a0.s_.Procs.length : Nat) : Int)),(46,.int .i64 ((aA : Nat) : Int))]) (fun (m,aA) wl=>Ye (Jk a0 aC) m aA=some bL ∧ St NB w wl [mapR aK aC]) (fun (m,aA)=>m) (b9,0) H ⟨rfl,rfl,rfl,rfl,trivial⟩ ⟨hm,hS⟩ ?_
  clear H hS hm a;intro xx a dI H hR;obtain⟨m,aA⟩:=xx;simp only [ent,List.map_cons,List.map_nil] at H;(try dsimp only at hR);obtain⟨hm,hS⟩:=hR
  replace hm:=Qh hm;obtain⟨cA,cB,rfl,hm,bD⟩:=hm;try dsimp only [Jk] at hm
  refine wp_seq (wp_region_lit (n_q H (Yc (i:=aA) (j:=a0.s_.Procs.length) rfl rfl) rfl ?_));clear H a;intro a H
  refine Ze (Za (wp_seq (Zn H rfl (fun aN=>?_) (fun aN=>?_))))
  · replace hm:=Zu hm aN
    have cQ : aA < a0.s_.Procs.length:=of_decide_eq_true aN
    refine wp_skip (Za (wp_seq (wp_block (wp_seq (wp_region_lit (n_q H (Zd rfl) rfl ?_))))));clear H a;intro a H
    replace hm:=Zj hm;obtain⟨aE,bE,hm⟩:=hm
    obtain⟨cR,bH⟩:=SlR.adV (aB.ext (Zi.mono _) hS.x) aM bE
    refine n_q H (Ug (i:=aA) Tryz.underlying28 Zcx rfl aM bH rfl (Zb5 bE)) rfl (W_q (Zf rfl (SlR.ldAggV (aB.ext (Zi.mono _) hS.x) aM bH Zp5 Zcx bE)) rfl ?_);clear H a;intro a H
    refine Jb H Zmu rfl ?_
    clear H;intro dJ dK hN bY hs;clear a;intro a H
    replace hS:=hS.newBlk hN bY hs;clear hN hs
    refine n_q H (Zb rfl) rfl ?_;clear H a;intro a H
    refine Qi H rfl rfl (vs:=(aE.Regs.toList.map (Value.int .u32) ++ [.int .u32 aE.Pc,.int .i64 aE.State,.int .i64 aE.Prio,.int .i64 aE.Wait,.int .i64 aE.Obj])) rfl (Zcx.trans (by simp)) (hS.blk 0 rfl) (by simp) (Zbf _) ?_
    clear H;intro dL hN bZ hz;clear a;intro a H;replace hS:=hS.setBlk hN bZ;clear hN hz
    refine Ze (Za ?_)
    replace hm:=Zj hm;obtain⟨dM,hm,bQ⟩:=hm
    refine Gm (σ:=Bool) H (fun aO=>[(3,.map (some aK)),(44,aG),(45,.int .i64 ((a0.s_.Procs.length : Nat) : Int)),(46,.int .i64 ((aA : Nat) : Int)),(59,.bool aO)]) (fun aO wl=>(Vw aA) aO=some cB ∧ St NB w wl [mapR aK aC]) ?_ ?_
    · skip
      refine wp_region_lit (n_q H (Zc rfl Ze2) rfl (W_q (Zf rfl ((hS.blk 0 rfl).ld (v:=Value.int .i64 aE.State) ag3 (by simp))) rfl (W_q (Jy rfl rfl) rfl (W_q (Zd rfl) rfl ?_))));clear H a;intro a H
      rcases Bool.eq_false_or_eq_true (decide (aE.State=1)) with aF|aF
      · replace H:=H.know 54 rfl aF
        replace hm:=Zu hm aF
        refine Kq H rfl rfl (n_q H (Zd rfl) rfl (Zy rfl rfl (W_q (Zd rfl) rfl (Zy rfl rfl (W_q (Zgx Tryz.underlying330 Tryz.underlying3 (fun w=>by kernel_rfl) (hS.map 1 rfl) rfl rfl) rfl (Zy rfl rfl (W_q (Zb1 rfl) rfl (W_q (Zx rfl rfl) rfl ?_))))))));clear H a;intro a H
        refine Ze (Za ?_)
        obtain rfl:=Option.some.inj hm;replace hm:=bQ;try dsimp only at hm
        replace hS:=hS.pk1
        replace hS:=hS.tk1
        exact Uy (!(decide (((aA : Nat) : Int) ∈ aC))) H ⟨rfl,rfl,rfl,rfl,rfl,trivial⟩ ⟨hm,hS⟩
      replace H:=H.know 54 rfl aF
      replace hm:=Zv hm aF
      refine Tp H rfl rfl (by decide) rfl (Zz rfl rfl (by decide) rfl (Zz rfl rfl (by decide) rfl (Zz rfl rfl (by decide) rfl (W_q (Zt rfl rfl) rfl ?_))));clear H a;intro a H
      refine Ze (Za ?_)
      obtain rfl:=Option.some.inj hm;replace hm:=bQ;try dsimp only at hm
      replace hS:=hS.pk1
      replace hS:=hS.tk1
      exact Uy false H ⟨rfl,rfl,rfl,rfl,rfl,trivial⟩ ⟨hm,hS⟩
    clear H hS hm a;intro aO a cZ H hR
    simp only [ent,List.map_cons,List.map_nil] at H;(try dsimp only at hR);obtain⟨hm,hS⟩:=hR;try dsimp only [Vw] at hm
    refine Zn H rfl (fun aR=>?_) (fun aR=>?_)
    · replace hm:=Zu hm aR
      refine wp_seq (wp_region_lit (n_q H (Zb rfl) rfl ?_));clear H a;intro a H
      refine Ze (Za (wp_ret (Zl (Zh (Zh (Zl (Zh ?_)))))))
      obtain rfl:=Option.some.inj hm;have hz : _=bL:=bD;subst hz;replace hm:=bP;try dsimp only at hm
      obtain rfl:=Option.some.inj hm
      replace hS:=hS.tk0
      refine Qx H (.inr rfl) rfl rfl ?_
      exact⟨rfl,hS.x⟩
    replace hm:=Zv hm aR
    refine wp_skip (Zo (Za (wp_region_lit (n_q H (Yt (i:=aA) (j:=1) rfl rfl (by omega)) rfl (W_q (Zd rfl) rfl ?_)))));clear H a;intro a H
    refine Ze (Za ?_)
    obtain rfl:=Option.some.inj hm
    exact Uz (cA,aA + 1) H ⟨rfl,rfl,rfl,rfl,trivial⟩ ⟨bD,hS⟩ (Nat.lt_succ_self _)
  replace hm:=Zv hm aN
  refine wp_exit (Zr (Zr (Qf ?_)))
  obtain rfl:=Option.some.inj hm;have hz : _=bL:=bD;subst hz;replace hm:=bP;try dsimp only at hm
  refine Za (wp_seq (wp_region_lit (n_q H (Zb rfl) rfl ?_)));clear H a;intro a H
  refine Ze (Za (wp_ret ?_))
  obtain rfl:=Option.some.inj hm
  replace hS:=hS.tk0
  refine Qx H (.inr rfl) rfl rfl ?_
  exact⟨rfl,hS.x⟩
theorem Zeg {w : World} {A : Nat → Addr} {cs0 : List Value} {a0 : GValidAsked} (h0 : Qj w cs0 a0) {r : Bool} (hm : Ud a0=some r) :
    Calls Tryz.prog 212 [.agg cs0.toArray].toArray w (Ret fun u w'=>u=.bool r ∧ Ext w w'):=by
  obtain⟨aJ,aK,aL,aM,aN,aO,aB,aP,aQ,aR,aI,rfl,b8,b9,cA,cB,bJ,cC,aC,cD,cF,cG,b6⟩:=h0
  have hS:=St.begin NB w
  unfold Ud at hm
  refine enter Tryz.func212 rfl rfl rfl ?_;intro a H;dsimp only [Qn,Nat.zero_add,Nat.reduceAdd] at H
  refine wp_seq (wp_region_lit (Yy H rfl (cs:=[.int .i64 a0.p_.Id,.bool a0.p_.Mobile,aJ,aK,aL,.int .i64 a0.p_.Events,aM,.int .i64 a0.s_.Id,.int .i64 a0.s_.Frame,.int .i64 a0.s_.Epoch,aN,aO,aB,aP,aQ,aR,aI]) rfl rfl ?_))
  clear H;intro aX dF hN bY hs;clear a;intro a H
  replace hS:=hS.newBlk hN bY hs;clear hN hs
  refine n_q H (Zb rfl) rfl ?_;clear H a;intro a H
  refine Ze (Za (wp_seq (wp_region_lit (Zhk H rfl ?_))));clear H;intro aY dG hN bZ hs;clear a;intro a H;replace hS:=hS.newMap hN bZ hs;clear hN hs
  refine n_q H (Zb rfl) rfl ?_;clear H a;intro a H
  refine Ze (Za (wp_seq (wp_seq (wp_region_lit (n_q H (Zc rfl Gj) rfl (W_q (Xh rfl Zld) rfl (W_q (Zf rfl ((hS.blk 1 rfl).ld ag29 rfl)) rfl ?_)))))));clear H a;intro a H
  obtain⟨dH,dI,aH,dA,dB⟩:=SlR.formV (aC.ext (Zi.mono _) hS.x)
  refine n_q H (Qc Tryz.underlying29 rfl aH) rfl (W_q (Zd rfl) rfl ?_);clear H a;intro a H
  refine Ze (Za (wp_block ?_))
  replace hm:=Zj hm;obtain⟨bH,hm,bG⟩:=hm;replace hm:=Ql hm;obtain⟨cH,hm⟩:=hm
  refine Kr (σ:=Nat × (List Int) × Nat) (fun (m,aG,aA)=>[(1,.pointer (some ⟨aX,0,none⟩)),(3,.map (some aY)),(10,aB),(11,.int .i64 ((a0.s_.Timers.length : Nat) : Int)),(12,.int .i64 ((aA : Nat) : Int))]) (fun (m,aG,aA) wl=>Ye (Jw a0) m (aG,aA)=some bH ∧ St NB w wl [mapR aY aG,blkR aX [.int .i64 a0.p_.Id,.bool a0.p_.Mobile,aJ,aK,aL,.int .i64 a0.p_.Events,aM,.int .i64 a0.s_.Id,.int .i64 a0.s_.Frame,.int .i64 a0.s_.Epoch,aN,aO,aB,aP,aQ,aR,aI] 219]) (fun (m,aG,aA)=>m) (cH,([] : List Int),0) H ⟨rfl,rfl,rfl,rfl,rfl,trivial⟩ ⟨hm,hS⟩ ?_
  clear H hS hm a;intro xx a dJ H hR;obtain⟨m,aG,aA⟩:=xx;simp only [ent,List.map_cons,List.map_nil] at H;(try dsimp only at hR);obtain⟨hm,hS⟩:=hR
  replace hm:=Qh hm;obtain⟨cI,cJ,rfl,hm,bA⟩:=hm;try dsimp only [Jw] at hm
  refine wp_seq (wp_region_lit (n_q H (Yc (i:=aA) (j:=a0.s_.Timers.length) rfl rfl) rfl ?_));clear H a;intro a H
  refine Ze (Za (wp_seq (Zn H rfl (fun bB=>?_) (fun bB=>?_))))
  · replace hm:=Zu hm bB
    have cO : aA < a0.s_.Timers.length:=of_decide_eq_true bB
    refine wp_skip (Za ?_)
    replace hm:=Zj hm;obtain⟨cK,hm,bC⟩:=hm
    refine Gm (σ:=(List Int)) H (fun aT=>[(1,.pointer (some ⟨aX,0,none⟩)),(3,.map (some aY)),(10,aB),(11,.int .i64 ((a0.s_.Timers.length : Nat) : Int)),(12,.int .i64 ((aA : Nat) : Int))]) (fun aT wl=>(Wv aA) aT=some cJ ∧ St NB w wl [mapR aY aT,blkR aX [.int .i64 a0.p_.Id,.bool a0.p_.Mobile,aJ,aK,aL,.int .i64 a0.p_.Events,aM,.int .i64 a0.s_.Id,.int .i64 a0.s_.Frame,.int .i64 a0.s_.Epoch,aN,aO,aB,aP,aQ,aR,aI] 219]) ?_ ?_
    · skip
      refine wp_block (wp_seq (wp_region_lit (n_q H (Zd rfl) rfl ?_)));clear H a;intro a H
      replace hm:=Zj hm;obtain⟨aD,bD,hm⟩:=hm
      obtain⟨cL,bF⟩:=SlR.adV (aC.ext (Zi.mono _) hS.x) aH bD
      refine n_q H (Ug (i:=aA) Tryz.underlying29 Zim rfl aH bF rfl (Zb5 bD)) rfl (W_q (Zf rfl (SlR.ldAggV (aC.ext (Zi.mono _) hS.x) aH bF Zt4 Zim bD)) rfl ?_);clear H a;intro a H
      refine Jb H Zrs rfl ?_
      clear H;intro bK dC hN bU hs;clear a;intro a H
      replace hS:=hS.newBlk hN bU hs;clear hN hs
      refine n_q H (Zb rfl) rfl ?_;clear H a;intro a H
      refine Qi H rfl rfl (vs:=[.int .i64 aD.Proc,.int .i64 aD.Due]) rfl Zim (hS.blk 0 rfl) rfl (by simp) ?_
      clear H;intro dD hN bV hz;clear a;intro a H;replace hS:=hS.setBlk hN bV;clear hN hz
      refine Ze (Za (wp_seq ?_))
      replace hm:=Zj hm;obtain⟨dE,hm,bE⟩:=hm
      refine Gm (σ:=Bool) H (fun aS=>[(1,.pointer (some ⟨aX,0,none⟩)),(3,.map (some aY)),(4,.int .i64 ((aA : Nat) : Int)),(5,.pointer (some ⟨bK,0,none⟩)),(10,aB),(11,.int .i64 ((a0.s_.Timers.length : Nat) : Int)),(12,.int .i64 ((aA : Nat) : Int)),(36,.bool aS)]) (fun aS wl=>(Wu a0 aG aA aD) aS=some cK ∧ St NB w wl [mapR aY aG,blkR aX [.int .i64 a0.p_.Id,.bool a0.p_.Mobile,aJ,aK,aL,.int .i64 a0.p_.Events,aM,.int .i64 a0.s_.Id,.int .i64 a0.s_.Frame,.int .i64 a0.s_.Epoch,aN,aO,aB,aP,aQ,aR,aI] 219,blkR bK [.int .i64 aD.Proc,.int .i64 aD.Due] 163]) ?_ ?_
      · skip
        refine wp_region_lit (n_q H (Zc rfl Zdv) rfl (W_q (Zf rfl ((hS.blk 0 rfl).ld ag3 rfl)) rfl (W_q (Zc rfl Gj) rfl (W_q (Xh rfl Zaq) rfl (W_q (Zf rfl ((hS.blk 2 rfl).ld Zmt rfl)) rfl ?_)))));clear H a;intro a H
        obtain⟨cP,cQ,bL,cM,cN⟩:=SlR.formV (bJ.ext (Zi.mono _) hS.x)
        refine n_q H (Qc Tryz.underlying28 rfl bL) rfl ?_;clear H a;intro a H
        replace hm:=Zj hm;obtain⟨bW,bM,hm⟩:=hm
        refine Zk H rfl Zj6 (Kc (A:=A) bM) rfl ?_
        clear H;intro cR cT hv;clear a;intro a H;obtain⟨rfl,bN⟩:=hv
        replace hS:=hS.ext bN
        refine n_q H (Zb1 rfl) rfl (W_q (Zd rfl) rfl ?_);clear H a;intro a H
        rcases Bool.eq_false_or_eq_true (!bW) with aE|aE
        · replace H:=H.know 25 rfl aE
          replace hm:=Zu hm aE
          refine Tp H rfl rfl (by decide) rfl (Zz rfl rfl (by decide) rfl (Zz rfl rfl (by decide) rfl (Zz rfl rfl (by decide) rfl (W_q (Zx rfl rfl) rfl (W_q (Zd rfl) rfl (Zz rfl rfl (by decide) rfl (Zz rfl rfl (by decide) rfl (Zz rfl rfl (by decide) rfl (Zz rfl rfl (by decide) rfl (W_q (Zx rfl rfl) rfl ?_))))))))));clear H a;intro a H
          refine Ze (Za ?_)
          obtain rfl:=Option.some.inj hm;replace hm:=bE;try dsimp only at hm
          replace hS:=hS.pk2
          replace hS:=hS.pk2
          exact Uy true H ⟨rfl,rfl,rfl,rfl,rfl,rfl,rfl,rfl,trivial⟩ ⟨hm,hS⟩
        replace H:=H.know 25 rfl aE
        replace hm:=Zv hm aE
        refine Kq H rfl rfl (n_q H (Zd rfl) rfl (Zy rfl rfl (W_q (Zc rfl Zdv) rfl (Zy rfl rfl (W_q (Zf rfl ((hS.blk 0 rfl).ld ag3 rfl)) rfl (Zy rfl rfl (W_q (Zgx Tryz.underlying330 Tryz.underlying3 (fun w=>by kernel_rfl) (hS.map 1 rfl) rfl rfl) rfl (W_q (Zt rfl rfl) rfl (W_q (Zd rfl) rfl ?_)))))))));clear H a;intro a H
        rcases Bool.eq_false_or_eq_true (decide (aD.Proc ∈ aG)) with aF|aF
        · replace H:=H.know 31 rfl aF
          replace hm:=Zu hm aF
          refine Tp H rfl rfl (by decide) rfl (Zz rfl rfl (by decide) rfl (Zz rfl rfl (by decide) rfl (Zz rfl rfl (by decide) rfl (W_q (Zx rfl rfl) rfl ?_))));clear H a;intro a H
          refine Ze (Za ?_)
          obtain rfl:=Option.some.inj hm;replace hm:=bE;try dsimp only at hm
          replace hS:=hS.pk2
          replace hS:=hS.pk2
          exact Uy true H ⟨rfl,rfl,rfl,rfl,rfl,rfl,rfl,rfl,trivial⟩ ⟨hm,hS⟩
        replace H:=H.know 31 rfl aF
        replace hm:=Zv hm aF
        refine Kq H rfl rfl (n_q H (Zc rfl Zhw) rfl (Zy rfl rfl (W_q (Zf rfl ((hS.blk 0 rfl).ld ag3 rfl)) rfl (Zy rfl rfl ?_))));clear H a;intro a H
        replace hm:=Zj hm;obtain⟨bX,bO,hm⟩:=hm
        refine Zk H rfl Zlc (Ko (A:=A) bO) rfl ?_
        clear H;intro cU cV hv;clear a;intro a H;obtain⟨rfl,bP⟩:=hv
        replace hS:=hS.ext bP
        refine Kq H rfl rfl (n_q H (Zb1 rfl) rfl (W_q (Zt rfl rfl) rfl ?_));clear H a;intro a H
        refine Ze (Za ?_)
        obtain rfl:=Option.some.inj hm;replace hm:=bE;try dsimp only at hm
        replace hS:=hS.pk2
        replace hS:=hS.pk2
        exact Uy (!bX) H ⟨rfl,rfl,rfl,rfl,rfl,rfl,rfl,rfl,trivial⟩ ⟨hm,hS⟩
      clear H hS hm a;intro aS a cW H hR
      simp only [ent,List.map_cons,List.map_nil] at H;(try dsimp only at hR);obtain⟨hm,hS⟩:=hR;try dsimp only [Wu] at hm
      refine Zn H rfl (fun aU=>?_) (fun aU=>?_)
      · replace hm:=Zu hm aU
        refine wp_seq (wp_region_lit (n_q H (Zb rfl) rfl ?_));clear H a;intro a H
        refine Ze (Za (wp_ret (Zh (Zl (Zh (Zh (Zl (Zh ?_))))))))
        obtain rfl:=Option.some.inj hm;replace hm:=bC;try dsimp only at hm
        obtain rfl:=Option.some.inj hm;have hz : _=bH:=bA;subst hz;replace hm:=bG;try dsimp only at hm
        obtain rfl:=Option.some.inj hm
        replace hS:=hS.tk0
        refine Qx H (.inr rfl) rfl rfl ?_
        exact⟨rfl,hS.x⟩
      replace hm:=Zv hm aU
      refine wp_skip (Za (wp_seq (wp_region_lit (n_q H (Zd rfl) rfl (W_q (Zc rfl Zdv) rfl (W_q (Zf rfl ((hS.blk 2 rfl).ld ag3 rfl)) rfl ?_))))));clear H a;intro a H
      refine Zey H Tryz.underlying330 Tryz.underlying3 (hS.map 0 rfl) rfl rfl ?_;clear H;intro cX hN bQ;clear a;intro a H;replace hS:=hS.setMap hN bQ;clear hN
      refine Ze (Za (wp_seq (wp_region_lit (n_q H (Zd rfl) rfl (W_q (Zgf (i:=aA) (j:=0) rfl rfl) rfl ?_)))));clear H a;intro a H
      refine Ze (Za (Zn H rfl (fun aV=>?_) (fun aV=>?_)))
      · replace hm:=Zu hm aV
        refine wp_seq (wp_region_lit (n_q H (Zc rfl Gj) rfl (W_q (Xh rfl Zld) rfl (W_q (Zf rfl ((hS.blk 1 rfl).ld ag29 rfl)) rfl (W_q (Zd rfl) rfl (W_q (Zg9 rfl rfl) rfl ?_))))));clear H a;intro a H
        replace hm:=Zj hm;obtain⟨bI,bR,hm⟩:=hm
        obtain⟨h0x1063,h1x1063,aZ⟩:=Ho bR
        obtain⟨b7,a9⟩:=SlR.adV (aC.ext (Zi.mono _) hS.x) aH aZ
        refine n_q H (Zch Tryz.underlying29 Zim rfl aH a9 rfl h0x1063 h1x1063) rfl (W_q (Zf rfl (SlR.ldAggV (aC.ext (Zi.mono _) hS.x) aH a9 Zt4 Zim aZ)) rfl ?_);clear H a;intro a H
        refine Jb H Zrs rfl ?_
        clear H;intro cY cZ hN bS hs;clear a;intro a H
        replace hS:=hS.newBlk hN bS hs;clear hN hs
        refine Qi H rfl rfl (vs:=[.int .i64 bI.Proc,.int .i64 bI.Due]) rfl Zim (hS.blk 0 rfl) rfl (by simp) ?_
        clear H;intro c7 hN bT hz;clear a;intro a H;replace hS:=hS.setBlk hN bT;clear hN hz
        refine Ze (Za (wp_seq (wp_region_lit (n_c H (fun HC=>?_)))));clear H
        refine Zfx HC (Zc rfl Zhw) rfl (by kernel_rfl) (V_q (Zf rfl ((hS.blk 0 rfl).ld ag3 rfl)) rfl (by kernel_rfl) (V_q (Zc rfl Zhw) rfl (by kernel_rfl) (V_q (Zf rfl ((hS.blk 3 rfl).ld ag3 rfl)) rfl (by kernel_rfl) (V_q (Zcd rfl rfl) rfl (by kernel_rfl) (V_q (Zd rfl) rfl (by kernel_rfl) (V_g (Zc rfl Zhw) (by kernel_rfl) (by kernel_rfl) (by kernel_rfl) (V_g (Zf rfl ((hS.blk 0 rfl).ld ag3 rfl)) (by kernel_rfl) (by kernel_rfl) (by kernel_rfl) (V_g (Zc rfl Zhw) (by kernel_rfl) (by kernel_rfl) (by kernel_rfl) (V_g (Zf rfl ((hS.blk 3 rfl).ld ag3 rfl)) (by kernel_rfl) (by kernel_rfl) (by kernel_rfl) (V_g (Jy rfl rfl) (by kernel_rfl) (by kernel_rfl) (by kernel_rfl) (V_g (Zd rfl) (by kernel_rfl) (by kernel_rfl) (by kernel_rfl) ?_)))))))))));clear HC a;intro a HC
        refine Zq3 HC (Zc rfl Zdv) (by kernel_rfl) (by kernel_rfl) (by kernel_rfl) (V_g (Zf rfl ((hS.blk 0 rfl).ld ag3 rfl)) (by kernel_rfl) (by kernel_rfl) (by kernel_rfl) (V_g (Zc rfl Zdv) (by kernel_rfl) (by kernel_rfl) (by kernel_rfl) (V_g (Zf rfl ((hS.blk 3 rfl).ld ag3 rfl)) (by kernel_rfl) (by kernel_rfl) (by kernel_rfl) (V_g (Zob rfl rfl) (by kernel_rfl) (by kernel_rfl) (by kernel_rfl) ?_))));clear HC a;intro a HC
        refine Ztb (j:=11) HC rfl rfl rfl (by kernel_rfl) (by kernel_rfl) (by kernel_rfl) ?_;clear HC a;intro a HC
        refine Zta (j:=5) HC rfl rfl rfl (by kernel_rfl) (by kernel_rfl) ?_;clear HC a;intro a HC
        have H:=HC.has;clear HC
        refine Ze (Za (Zn H rfl (fun aW=>?_) (fun aW=>?_)))
        · replace hm:=Zu hm aW
          refine wp_seq (wp_region_lit (n_q H (Zb rfl) rfl ?_));clear H a;intro a H
          refine Ze (Za (wp_ret (Zl (Zh (Zh (Zl (Zh ?_)))))))
          obtain rfl:=Option.some.inj hm;replace hm:=bC;try dsimp only at hm
          obtain rfl:=Option.some.inj hm;have hz : _=bH:=bA;subst hz;replace hm:=bG;try dsimp only at hm
          obtain rfl:=Option.some.inj hm
          replace hS:=hS.tk0
          refine Qx H (.inr rfl) rfl rfl ?_
          exact⟨rfl,hS.x⟩
        replace hm:=Zv hm aW
        refine wp_skip (Zo (Za ?_))
        obtain rfl:=Option.some.inj hm;replace hm:=bC;try dsimp only at hm
        replace hS:=hS.pk2
        replace hS:=hS.pk2
        replace hS:=hS.tk2
        exact Uy (Zjr aG aD.Proc) H ⟨rfl,rfl,rfl,rfl,rfl,trivial⟩ ⟨hm,hS⟩
      replace hm:=Zv hm aV
      refine wp_skip (Zo (Za ?_))
      obtain rfl:=Option.some.inj hm;replace hm:=bC;try dsimp only at hm
      replace hS:=hS.tk2
      exact Uy (Zjr aG aD.Proc) H ⟨rfl,rfl,rfl,rfl,rfl,trivial⟩ ⟨hm,hS⟩
    clear H hS hm a;intro aT a c9 H hR
    simp only [ent,List.map_cons,List.map_nil] at H;(try dsimp only at hR);obtain⟨hm,hS⟩:=hR;try dsimp only [Wv] at hm
    refine wp_region_lit (n_q H (Yt (i:=aA) (j:=1) rfl rfl (by omega)) rfl (W_q (Zd rfl) rfl ?_));clear H a;intro a H
    refine Ze (Za ?_)
    obtain rfl:=Option.some.inj hm
    exact Uz (cI,aT,aA + 1) H ⟨rfl,rfl,rfl,rfl,rfl,trivial⟩ ⟨bA,hS⟩ (Nat.lt_succ_self _)
  replace hm:=Zv hm bB
  refine wp_exit (Zr (Zr (Qf ?_)))
  obtain rfl:=Option.some.inj hm;have hz : _=bH:=bA;subst hz;replace hm:=bG;try dsimp only at hm
  refine Za (wp_seq (wp_region_lit (n_q H (Zb rfl) rfl ?_)));clear H a;intro a H
  refine Ze (Za (wp_ret ?_))
  obtain rfl:=Option.some.inj hm
  replace hS:=hS.tk0
  refine Qx H (.inr rfl) rfl rfl ?_
  exact⟨rfl,hS.x⟩
theorem Zdx {w : World} {A : Nat → Addr} {cs0 : List Value} {a0 : GValidAsked} (h0 : Qj w cs0 a0) {r : Bool} (hm : Wp a0=some r) :
    Calls Tryz.prog 213 [.agg cs0.toArray].toArray w (Ret fun u w'=>u=.bool r ∧ Ext w w'):=by
  obtain⟨aS,aT,aU,aV,aG,aW,aH,aX,aY,aZ,aO,rfl,cG,cH,cI,cJ,aB,cK,aP,cL,cM,cN,cF⟩:=h0
  have hS:=St.begin NB w
  unfold Wp at hm
  refine enter Tryz.func213 rfl rfl rfl ?_;intro a H;dsimp only [Qn,Nat.zero_add,Nat.reduceAdd] at H
  refine wp_seq (wp_region_lit (Yy H rfl (cs:=[.int .i64 a0.p_.Id,.bool a0.p_.Mobile,aS,aT,aU,.int .i64 a0.p_.Events,aV,.int .i64 a0.s_.Id,.int .i64 a0.s_.Frame,.int .i64 a0.s_.Epoch,aG,aW,aH,aX,aY,aZ,aO]) rfl rfl ?_))
  clear H;intro bL dP hN b6 hs;clear a;intro a H
  replace hS:=hS.newBlk hN b6 hs;clear hN hs
  refine n_q H (Zb rfl) rfl ?_;clear H a;intro a H
  refine Ze (Za (wp_seq (wp_region_lit (Zhk H rfl ?_))));clear H;intro aJ dQ hN b7 hs;clear a;intro a H;replace hS:=hS.newMap hN b7 hs;clear hN hs
  refine n_q H (Zb rfl) rfl ?_;clear H a;intro a H
  refine Ze (Za (wp_seq (wp_seq (wp_region_lit (n_q H (Zc rfl Gj) rfl (W_q (Xh rfl Zld) rfl (W_q (Zf rfl ((hS.blk 1 rfl).ld ag29 rfl)) rfl ?_)))))));clear H a;intro a H
  obtain⟨dR,dS,a9,dA,dB⟩:=SlR.formV (aP.ext (Zi.mono _) hS.x)
  refine n_q H (Qc Tryz.underlying29 rfl a9) rfl (W_q (Zd rfl) rfl ?_);clear H a;intro a H
  refine Ze (Za (wp_block ?_))
  replace hm:=Zj hm;obtain⟨bP,hm,bQ⟩:=hm;replace hm:=Ql hm;obtain⟨cO,hm⟩:=hm
  refine Kr (σ:=Nat × (List Int) × Nat) (fun (m,aC,aD)=>[(1,.pointer (some ⟨bL,0,none⟩)),(3,.map (some aJ)),(11,aH),(12,.int .i64 ((a0.s_.Timers.length : Nat) : Int)),(13,.int .i64 ((aD : Nat) : Int))]) (fun (m,aC,aD) wl=>Ye (Jn a0) m (aC,aD)=some bP ∧ St NB w wl [mapR aJ aC,blkR bL [.int .i64 a0.p_.Id,.bool a0.p_.Mobile,aS,aT,aU,.int .i64 a0.p_.Events,aV,.int .i64 a0.s_.Id,.int .i64 a0.s_.Frame,.int .i64 a0.s_.Epoch,aG,aW,aH,aX,aY,aZ,aO] 219]) (fun (m,aC,aD)=>m) (cO,([] : List Int),0) H ⟨rfl,rfl,rfl,rfl,rfl,trivial⟩ ⟨hm,hS⟩ ?_
  clear H hS hm a;intro xx a dT H hR;obtain⟨m,aC,aD⟩:=xx;simp only [ent,List.map_cons,List.map_nil] at H;(try dsimp only at hR);obtain⟨hm,hS⟩:=hR
  replace hm:=Qh hm;obtain⟨cP,cQ,rfl,hm,bI⟩:=hm;try dsimp only [Jn] at hm
  refine wp_seq (wp_region_lit (n_q H (Yc (i:=aD) (j:=a0.s_.Timers.length) rfl rfl) rfl ?_));clear H a;intro a H
  refine Ze (Za (wp_seq (Zn H rfl (fun bA=>?_) (fun bA=>?_))))
  · replace hm:=Zu hm bA
    have cV : aD < a0.s_.Timers.length:=of_decide_eq_true bA
    refine wp_skip (Za (wp_seq (wp_block (wp_seq (wp_region_lit ?_)))))
    replace hm:=Zj hm;obtain⟨aR,bJ,hm⟩:=hm
    obtain⟨cW,bM⟩:=SlR.adV (aP.ext (Zi.mono _) hS.x) a9 bJ
    refine n_q H (Ug (i:=aD) Tryz.underlying29 Zim rfl a9 bM rfl (Zb5 bJ)) rfl (W_q (Zf rfl (SlR.ldAggV (aP.ext (Zi.mono _) hS.x) a9 bM Zt4 Zim bJ)) rfl ?_);clear H a;intro a H
    refine Jb H Zrs rfl ?_
    clear H;intro bZ dU hN b8 hs;clear a;intro a H
    replace hS:=hS.newBlk hN b8 hs;clear hN hs
    refine Qi H rfl rfl (vs:=[.int .i64 aR.Proc,.int .i64 aR.Due]) rfl Zim (hS.blk 0 rfl) rfl (by simp) ?_
    clear H;intro dV hN b9 hz;clear a;intro a H;replace hS:=hS.setBlk hN b9;clear hN hz
    refine Ze (Za (wp_seq ?_))
    replace hm:=Zj hm;obtain⟨dW,hm,bR⟩:=hm
    refine Gm (σ:=Bool) H (fun bB=>[(1,.pointer (some ⟨bL,0,none⟩)),(3,.map (some aJ)),(5,.pointer (some ⟨bZ,0,none⟩)),(11,aH),(12,.int .i64 ((a0.s_.Timers.length : Nat) : Int)),(13,.int .i64 ((aD : Nat) : Int)),(34,.bool bB)]) (fun bB wl=>(Vx aC aD aR) bB=some cQ ∧ St NB w wl [mapR aJ aC,blkR bL [.int .i64 a0.p_.Id,.bool a0.p_.Mobile,aS,aT,aU,.int .i64 a0.p_.Events,aV,.int .i64 a0.s_.Id,.int .i64 a0.s_.Frame,.int .i64 a0.s_.Epoch,aG,aW,aH,aX,aY,aZ,aO] 219,blkR bZ [.int .i64 aR.Proc,.int .i64 aR.Due] 163]) ?_ ?_
    · skip
      refine wp_region_lit (n_q H (Zc rfl Zdv) rfl (W_q (Zf rfl ((hS.blk 0 rfl).ld ag3 rfl)) rfl (W_q (Zc rfl Gj) rfl (W_q (Xh rfl Zaq) rfl (W_q (Zf rfl ((hS.blk 2 rfl).ld Zmt rfl)) rfl ?_)))));clear H a;intro a H
      obtain⟨dC,dD,aK,cX,cY⟩:=SlR.formV (aB.ext (Zi.mono _) hS.x)
      refine n_q H (Qc Tryz.underlying28 rfl aK) rfl ?_;clear H a;intro a H
      replace hm:=Zj hm;obtain⟨cA,bT,hm⟩:=hm
      refine Zk H rfl Zj6 (Kc (A:=A) bT) rfl ?_
      clear H;intro dE dF hv;clear a;intro a H;obtain⟨rfl,bU⟩:=hv
      replace hS:=hS.ext bU
      refine n_q H (Zd rfl) rfl ?_;clear H a;intro a H
      rcases Bool.eq_false_or_eq_true cA with aI|aI
      · replace H:=H.know 24 rfl aI
        replace hm:=Zu hm aI
        refine Kq H rfl rfl (n_q H (Zc rfl Gj) rfl (Zy rfl rfl (W_q (Xh rfl Zaq) rfl (Zy rfl rfl (W_q (Zf rfl ((hS.blk 2 rfl).ld Zmt rfl)) rfl (Zy rfl rfl (W_q (Zc rfl Zdv) rfl (Zy rfl rfl (W_q (Zf rfl ((hS.blk 0 rfl).ld ag3 rfl)) rfl (Zy rfl rfl ?_))))))))));clear H a;intro a H
        replace hm:=Zj hm;obtain⟨bS,bV,hm⟩:=hm
        obtain⟨h0x550,h1x550,bF⟩:=Ho bV
        obtain⟨cR,bG⟩:=SlR.adV (aB.ext (Zi.mono _) hS.x) aK bF
        refine n_q H (Zch Tryz.underlying28 Zcx rfl aK bG rfl h0x550 h1x550) rfl (Zy rfl rfl (W_q (Vg rfl Ze2) rfl (Zy rfl rfl (W_q (Zf rfl (SlR.ldCellV (j:=17) (u:=Value.int .i64 bS.State) (aB.ext (Zi.mono _) hS.x) aK bG ag3 bF (by simp [Xf]))) rfl (Zy rfl rfl (W_q (Th rfl rfl) rfl (W_q (Zx rfl rfl) rfl ?_)))))));clear H a;intro a H
        refine Ze (Za ?_)
        obtain rfl:=Option.some.inj hm;replace hm:=bR;try dsimp only at hm
        replace hS:=hS.pk2
        replace hS:=hS.pk2
        exact Uy (!decide (bS.State=2)) H ⟨rfl,rfl,rfl,rfl,rfl,rfl,rfl,trivial⟩ ⟨hm,hS⟩
      replace H:=H.know 24 rfl aI
      replace hm:=Zv hm aI
      refine Tp H rfl rfl (by decide) rfl (Zz rfl rfl (by decide) rfl (Zz rfl rfl (by decide) rfl (Zz rfl rfl (by decide) rfl (Zz rfl rfl (by decide) rfl (Zz rfl rfl (by decide) rfl (Zz rfl rfl (by decide) rfl (Zz rfl rfl (by decide) rfl (Zz rfl rfl (by decide) rfl (W_q (Zt rfl rfl) rfl ?_)))))))));clear H a;intro a H
      refine Ze (Za ?_)
      obtain rfl:=Option.some.inj hm;replace hm:=bR;try dsimp only at hm
      replace hS:=hS.pk2
      replace hS:=hS.pk2
      exact Uy false H ⟨rfl,rfl,rfl,rfl,rfl,rfl,rfl,trivial⟩ ⟨hm,hS⟩
    clear H hS hm a;intro bB a dG H hR
    simp only [ent,List.map_cons,List.map_nil] at H;(try dsimp only at hR);obtain⟨hm,hS⟩:=hR;try dsimp only [Vx] at hm
    refine Zn H rfl (fun bC=>?_) (fun bC=>?_)
    · replace hm:=Zu hm bC
      refine wp_seq (wp_region_lit (n_q H (Zb rfl) rfl ?_));clear H a;intro a H
      refine Ze (Za (wp_ret (Zh (Zl (Zh (Zh (Zl (Zh ?_))))))))
      obtain rfl:=Option.some.inj hm;have hz : _=bP:=bI;subst hz;replace hm:=bQ;try dsimp only at hm
      obtain rfl:=Option.some.inj hm
      replace hS:=hS.tk0
      refine Qx H (.inr rfl) rfl rfl ?_
      exact⟨rfl,hS.x⟩
    replace hm:=Zv hm bC
    refine wp_skip (Za (wp_region_lit (n_q H (Zd rfl) rfl (W_q (Zc rfl Zdv) rfl (W_q (Zf rfl ((hS.blk 2 rfl).ld ag3 rfl)) rfl ?_)))));clear H a;intro a H
    refine Zey H Tryz.underlying330 Tryz.underlying3 (hS.map 0 rfl) rfl rfl ?_;clear H;intro dH hN bW;clear a;intro a H;replace hS:=hS.setMap hN bW;clear hN
    refine Ze (Zo (Za (wp_region_lit (n_q H (Yt (i:=aD) (j:=1) rfl rfl (by omega)) rfl (W_q (Zd rfl) rfl ?_)))));clear H a;intro a H
    refine Ze (Za ?_)
    obtain rfl:=Option.some.inj hm
    replace hS:=hS.tk2
    exact Uz (cP,(Zjr aC aR.Proc),aD + 1) H ⟨rfl,rfl,rfl,rfl,rfl,trivial⟩ ⟨bI,hS⟩ (Nat.lt_succ_self _)
  replace hm:=Zv hm bA
  refine wp_exit (Zr (Zr (Qf ?_)))
  obtain rfl:=Option.some.inj hm;have hz : _=bP:=bI;subst hz;replace hm:=bQ;try dsimp only at hm
  refine Za (wp_seq (wp_seq (wp_region_lit (n_q H (Zc rfl Gj) rfl (W_q (Xh rfl Zaq) rfl (W_q (Zf rfl ((hS.blk 1 rfl).ld Zmt rfl)) rfl ?_))))));clear H a;intro a H
  obtain⟨dI,dJ,aL,cZ,c7⟩:=SlR.formV (aB.ext (Zi.mono _) hS.x)
  refine n_q H (Qc Tryz.underlying28 rfl aL) rfl (W_q (Zd rfl) rfl ?_);clear H a;intro a H
  refine Ze (Za (wp_block ?_))
  replace hS:=hS.tk1
  replace hm:=Zj hm;obtain⟨bK,hm,bN⟩:=hm;replace hm:=Ql hm;obtain⟨cB,hm⟩:=hm
  refine Kr (σ:=Nat × Nat) (fun (m,aA)=>[(3,.map (some aJ)),(41,aG),(42,.int .i64 ((a0.s_.Procs.length : Nat) : Int)),(43,.int .i64 ((aA : Nat) : Int))]) (fun (m,aA) wl=>Ye (Jm a0 aC) m aA=some bK ∧ St NB w wl [mapR aJ aC]) (fun (m,aA)=>m) (cB,0) H ⟨rfl,rfl,rfl,rfl,trivial⟩ ⟨hm,hS⟩ ?_
  clear H hS hm a;intro xx a dK H hR;obtain⟨m,aA⟩:=xx;simp only [ent,List.map_cons,List.map_nil] at H;(try dsimp only at hR);obtain⟨hm,hS⟩:=hR
  replace hm:=Qh hm;obtain⟨cC,cD,rfl,hm,bD⟩:=hm;try dsimp only [Jm] at hm
  refine wp_seq (wp_region_lit (n_q H (Yc (i:=aA) (j:=a0.s_.Procs.length) rfl rfl) rfl ?_));clear H a;intro a H
  refine Ze (Za (wp_seq (Zn H rfl (fun aM=>?_) (fun aM=>?_))))
  · replace hm:=Zu hm aM
    have cT : aA < a0.s_.Procs.length:=of_decide_eq_true aM
    refine wp_skip (Za (wp_seq (wp_block (wp_seq (wp_region_lit (n_q H (Zd rfl) rfl ?_))))));clear H a;intro a H
    replace hm:=Zj hm;obtain⟨aE,bE,hm⟩:=hm
    obtain⟨cU,bH⟩:=SlR.adV (aB.ext (Zi.mono _) hS.x) aL bE
    refine n_q H (Ug (i:=aA) Tryz.underlying28 Zcx rfl aL bH rfl (Zb5 bE)) rfl (W_q (Zf rfl (SlR.ldAggV (aB.ext (Zi.mono _) hS.x) aL bH Zp5 Zcx bE)) rfl ?_);clear H a;intro a H
    refine Jb H Zmu rfl ?_
    clear H;intro dL dM hN bX hs;clear a;intro a H
    replace hS:=hS.newBlk hN bX hs;clear hN hs
    refine n_q H (Zb rfl) rfl ?_;clear H a;intro a H
    refine Qi H rfl rfl (vs:=(aE.Regs.toList.map (Value.int .u32) ++ [.int .u32 aE.Pc,.int .i64 aE.State,.int .i64 aE.Prio,.int .i64 aE.Wait,.int .i64 aE.Obj])) rfl (Zcx.trans (by simp)) (hS.blk 0 rfl) (by simp) (Zbf _) ?_
    clear H;intro dN hN bY hz;clear a;intro a H;replace hS:=hS.setBlk hN bY;clear hN hz
    refine Ze (Za ?_)
    replace hm:=Zj hm;obtain⟨dO,hm,bO⟩:=hm
    refine Gm (σ:=Bool) H (fun aN=>[(3,.map (some aJ)),(41,aG),(42,.int .i64 ((a0.s_.Procs.length : Nat) : Int)),(43,.int .i64 ((aA : Nat) : Int)),(56,.bool aN)]) (fun aN wl=>(Vy aA) aN=some cD ∧ St NB w wl [mapR aJ aC]) ?_ ?_
    · skip
      refine wp_region_lit (n_q H (Zc rfl Ze4) rfl (W_q (Zf rfl ((hS.blk 0 rfl).ld (v:=Value.int .i64 aE.Wait) ag3 (by simp))) rfl (W_q (Jy rfl rfl) rfl (W_q (Zd rfl) rfl ?_))));clear H a;intro a H
      rcases Bool.eq_false_or_eq_true (decide (aE.Wait=1)) with aF|aF
      · replace H:=H.know 51 rfl aF
        replace hm:=Zu hm aF
        refine Kq H rfl rfl (n_q H (Zd rfl) rfl (Zy rfl rfl (W_q (Zd rfl) rfl (Zy rfl rfl (W_q (Zgx Tryz.underlying330 Tryz.underlying3 (fun w=>by kernel_rfl) (hS.map 1 rfl) rfl rfl) rfl (Zy rfl rfl (W_q (Zb1 rfl) rfl (W_q (Zx rfl rfl) rfl ?_))))))));clear H a;intro a H
        refine Ze (Za ?_)
        obtain rfl:=Option.some.inj hm;replace hm:=bO;try dsimp only at hm
        replace hS:=hS.pk1
        replace hS:=hS.tk1
        exact Uy (!(decide (((aA : Nat) : Int) ∈ aC))) H ⟨rfl,rfl,rfl,rfl,rfl,trivial⟩ ⟨hm,hS⟩
      replace H:=H.know 51 rfl aF
      replace hm:=Zv hm aF
      refine Tp H rfl rfl (by decide) rfl (Zz rfl rfl (by decide) rfl (Zz rfl rfl (by decide) rfl (Zz rfl rfl (by decide) rfl (W_q (Zt rfl rfl) rfl ?_))));clear H a;intro a H
      refine Ze (Za ?_)
      obtain rfl:=Option.some.inj hm;replace hm:=bO;try dsimp only at hm
      replace hS:=hS.pk1
      replace hS:=hS.tk1
      exact Uy false H ⟨rfl,rfl,rfl,rfl,rfl,trivial⟩ ⟨hm,hS⟩
    clear H hS hm a;intro aN a c9 H hR
    simp only [ent,List.map_cons,List.map_nil] at H;(try dsimp only at hR);obtain⟨hm,hS⟩:=hR;try dsimp only [Vy] at hm
    refine Zn H rfl (fun aQ=>?_) (fun aQ=>?_)
    · replace hm:=Zu hm aQ
      refine wp_seq (wp_region_lit (n_q H (Zb rfl) rfl ?_));clear H a;intro a H
      refine Ze (Za (wp_ret (Zl (Zh (Zh (Zl (Zh ?_)))))))
      obtain rfl:=Option.some.inj hm;have hz : _=bK:=bD;subst hz;replace hm:=bN;try dsimp only at hm
      obtain rfl:=Option.some.inj hm
      replace hS:=hS.tk0
      refine Qx H (.inr rfl) rfl rfl ?_
      exact⟨rfl,hS.x⟩
    replace hm:=Zv hm aQ
    refine wp_skip (Zo (Za (wp_region_lit (n_q H (Yt (i:=aA) (j:=1) rfl rfl (by omega)) rfl (W_q (Zd rfl) rfl ?_)))));clear H a;intro a H
    refine Ze (Za ?_)
    obtain rfl:=Option.some.inj hm
    exact Uz (cC,aA + 1) H ⟨rfl,rfl,rfl,rfl,trivial⟩ ⟨bD,hS⟩ (Nat.lt_succ_self _)
  replace hm:=Zv hm aM
  refine wp_exit (Zr (Zr (Qf ?_)))
  obtain rfl:=Option.some.inj hm;have hz : _=bK:=bD;subst hz;replace hm:=bN;try dsimp only at hm
  refine Za (wp_seq (wp_region_lit (n_q H (Zb rfl) rfl ?_)));clear H a;intro a H
  refine Ze (Za (wp_ret ?_))
  obtain rfl:=Option.some.inj hm
  replace hS:=hS.tk0
  refine Qx H (.inr rfl) rfl rfl ?_
  exact⟨rfl,hS.x⟩
theorem Zcp {w : World} {A : Nat → Addr} {v0 : Value} {a0 : List Int} {g1 : Nat} {fs1 : List Value} {cp1 : List Value} {a1 : Int → Option Bool} (h0 : SlR w 1 (Zi eI) v0 a0) (he1 : Zq Tryz.prog g1=true) (hf1 : ∀ w1,Ext w w1 → ∀ (x0 : Int) (r : Bool),a1 x0=some r → Calls Tryz.prog g1 (fs1 ++ [Value.int .i64 x0] ++ cp1).toArray w1 (Ret fun u w'=>u=.bool r ∧ Ext w1 w')) {r : Int} (hm : Ww a0 a1=some r) :
    Calls Tryz.prog 246 [v0,.func (.func g1) fs1.toArray cp1.toArray].toArray w (Ret fun u w'=>u=.int .i64 r ∧ Ext w w'):=by
  have hS:=St.begin NB w
  unfold Ww at hm
  refine enter Tryz.func246 rfl rfl rfl ?_;intro a H;dsimp only [Qn,Nat.zero_add,Nat.reduceAdd] at H
  refine wp_seq (wp_region_lit (n_q H (Zb rfl) rfl ?_));clear H a;intro a H
  refine Ze (Za (wp_seq (wp_seq (wp_region_lit (n_q H (Zd rfl) rfl ?_)))));clear H a;intro a H
  obtain⟨aS,aT,aB,aQ,aR⟩:=SlR.formV (h0.ext (Zi.mono _) hS.x)
  refine n_q H (Qc Tryz.underlying25 rfl aB) rfl (W_q (Zd rfl) rfl ?_);clear H a;intro a H
  refine Ze (Za (wp_block ?_))
  replace hm:=Zj hm;obtain⟨aH,hm,aI⟩:=hm;replace hm:=Ql hm;obtain⟨aL,hm⟩:=hm
  refine Kr (σ:=Nat × Nat) (fun (m,aA)=>[(0,v0),(1,.func (.func g1) fs1.toArray cp1.toArray),(7,.int .i64 ((a0.length : Nat) : Int)),(8,.int .i64 ((aA : Nat) : Int))]) (fun (m,aA) wl=>Ye (Xx a0 a1) m aA=some aH ∧ St NB w wl []) (fun (m,aA)=>m) (aL,0) H ⟨rfl,rfl,rfl,rfl,trivial⟩ ⟨hm,hS⟩ ?_
  clear H hS hm a;intro xx a aU H hR;obtain⟨m,aA⟩:=xx;simp only [ent,List.map_cons,List.map_nil] at H;(try dsimp only at hR);obtain⟨hm,hS⟩:=hR
  replace hm:=Qh hm;obtain⟨aM,aV,rfl,hm,aD⟩:=hm;try dsimp only [Xx] at hm
  refine wp_seq (wp_region_lit (n_q H (Yc (i:=aA) (j:=a0.length) rfl rfl) rfl ?_));clear H a;intro a H
  refine Ze (Za (wp_seq (Zn H rfl (fun aC=>?_) (fun aC=>?_))))
  · replace hm:=Zu hm aC
    have aO : aA < a0.length:=of_decide_eq_true aC
    refine wp_skip (Za (wp_seq (wp_block (wp_seq (wp_region_lit (n_q H (Zd rfl) rfl (W_q (Zb rfl) rfl ?_)))))));clear H a;intro a H
    refine Ze (Za (wp_seq (wp_region_lit (n_q H (Zd rfl) rfl (W_q (Zd rfl) rfl (W_q (Zd rfl) rfl ?_))))));clear H a;intro a H
    replace hm:=Zj hm;obtain⟨aN,aE,hm⟩:=hm
    obtain⟨aP,aG⟩:=SlR.adV (h0.ext (Zi.mono _) hS.x) aB aE
    refine n_q H (Ug (i:=aA) Tryz.underlying25 sz3 rfl aB aG rfl (Zb5 aE)) rfl (W_q (Zf rfl (SlR.ldOneV (h0.ext (Zi.mono _) hS.x) aB aG ag3 aE rfl)) rfl ?_);clear H a;intro a H
    replace hm:=Zj hm;obtain⟨aW,aJ,hm⟩:=hm
    refine Zeu H rfl rfl he1 (hf1 _ hS.x aN _ aJ) rfl ?_
    clear H;intro aX aY hv;clear a;intro a H;obtain⟨rfl,aK⟩:=hv
    replace hS:=hS.ext aK
    refine Ze (Za (Zn H rfl (fun aF=>?_) (fun aF=>?_)))
    · replace hm:=Zu hm aF
      refine wp_seq (wp_region_lit (n_q H (Zd rfl) rfl (W_q (Zb rfl) rfl ?_)));clear H a;intro a H
      refine Ze (Za (wp_ret (Zl (Zh (Zh (Zl (Zh ?_)))))))
      obtain rfl:=Option.some.inj hm;have hz : _=aH:=aD;subst hz;replace hm:=aI;try dsimp only at hm
      obtain rfl:=Option.some.inj hm
      refine Qx H (.inr rfl) rfl rfl ?_
      exact⟨rfl,hS.x⟩
    replace hm:=Zv hm aF
    refine wp_skip (Zo (Za (wp_region_lit (n_q H (Yt (i:=aA) (j:=1) rfl rfl (by omega)) rfl (W_q (Zd rfl) rfl ?_)))));clear H a;intro a H
    refine Ze (Za ?_)
    obtain rfl:=Option.some.inj hm
    exact Uz (aM,aA + 1) H ⟨rfl,rfl,rfl,rfl,trivial⟩ ⟨aD,hS⟩ (Nat.lt_succ_self _)
  replace hm:=Zv hm aC
  refine wp_exit (Zr (Zr (Qf ?_)))
  obtain rfl:=Option.some.inj hm;have hz : _=aH:=aD;subst hz;replace hm:=aI;try dsimp only at hm
  refine Za (wp_seq (wp_region_lit (n_q H (Zb rfl) rfl ?_)));clear H a;intro a H
  refine Ze (Za (wp_ret ?_))
  obtain rfl:=Option.some.inj hm
  refine Qx H (.inr rfl) rfl rfl ?_
  exact⟨rfl,hS.x⟩
theorem Zbr {w : World} {A : Nat → Addr} {v0 : Value} {a0 : List Int} {g1 : Nat} {fs1 : List Value} {cp1 : List Value} {a1 : Int → Option Bool} (h0 : SlR w 1 (Zi eI) v0 a0) (he1 : Zq Tryz.prog g1=true) (hf1 : ∀ w1,Ext w w1 → ∀ (x0 : Int) (r : Bool),a1 x0=some r → Calls Tryz.prog g1 (fs1 ++ [Value.int .i64 x0] ++ cp1).toArray w1 (Ret fun u w'=>u=.bool r ∧ Ext w1 w')) {r : Bool} (hm : Ka a0 a1=some r) :
    Calls Tryz.prog 214 [v0,.func (.func g1) fs1.toArray cp1.toArray].toArray w (Ret fun u w'=>u=.bool r ∧ Ext w w'):=by
  have hS:=St.begin NB w
  unfold Ka at hm
  refine enter Tryz.func214 rfl rfl rfl ?_;intro a H;dsimp only [Qn,Nat.zero_add,Nat.reduceAdd] at H
  refine wp_seq (wp_region_lit (n_q H (Zb rfl) rfl ?_));clear H a;intro a H
  refine Ze (Za (wp_seq (wp_region_lit (n_q H (Zd rfl) rfl (W_q (Zd rfl) rfl ?_)))));clear H a;intro a H
  replace hm:=Zj hm;obtain⟨aC,aA,hm⟩:=hm
  refine Zk H rfl en246 (Zcp (A:=A) (h0.ext (Zi.mono _) hS.x) (g1:=g1) (fs1:=fs1) (cp1:=cp1) (a1:=a1) he1 (fun w1 e1=>hf1 w1 (Ext.trans' hS.x e1)) aA) rfl ?_
  clear H;intro aD aE hv;clear a;intro a H;obtain⟨rfl,aB⟩:=hv
  replace hS:=hS.ext aB
  refine n_q H (Zob rfl rfl) rfl (W_q (Zb rfl) rfl ?_);clear H a;intro a H
  refine Ze (Za (wp_ret ?_))
  obtain rfl:=Option.some.inj hm
  refine Qx H (.inr rfl) rfl rfl ?_
  exact⟨rfl,hS.x⟩
theorem Zc0 {w : World} {A : Nat → Addr} {a0 : Int} {r : Bool} (hm : Yx a0=some r) :
    Calls Tryz.prog 215 [.int .i64 a0].toArray w (Ret fun u w'=>u=.bool r ∧ Ext w w'):=by
  have hS:=St.begin NB w
  unfold Yx at hm
  refine enter Tryz.func215 rfl rfl rfl ?_;intro a H;dsimp only [Qn,Nat.zero_add,Nat.reduceAdd] at H
  refine wp_seq (wp_region_lit (n_q H (Zb rfl) rfl ?_));clear H a;intro a H
  refine Ze (Za (wp_seq (wp_region_lit (n_q H (Zd rfl) rfl ?_))));clear H a;intro a H
  replace hm:=Zj hm;obtain⟨aC,aA,hm⟩:=hm
  refine Zk H rfl Zlc (Ko (A:=A) aA) rfl ?_
  clear H;intro aD aE hv;clear a;intro a H;obtain⟨rfl,aB⟩:=hv
  replace hS:=hS.ext aB
  refine n_q H (Zb1 rfl) rfl (W_q (Zb rfl) rfl ?_);clear H a;intro a H
  refine Ze (Za (wp_ret ?_))
  obtain rfl:=Option.some.inj hm
  refine Qx H (.inr rfl) rfl rfl ?_
  exact⟨rfl,hS.x⟩
theorem Hm {w : World} {A : Nat → Addr} {cs0 : List Value} {a0 : GValidAsked} {g1 : Nat} {fs1 : List Value} {cp1 : List Value} {a1 : GPortPlan → GPort → Option Bool} (h0 : Qj w cs0 a0) (he1 : Zq Tryz.prog g1=true) (hf1 : ∀ w1,Ext w w1 → ∀ (x0 : GPortPlan) (ds1 : List Value) (x1 : GPort) (r : Bool),Qe w1 ds1 x1 → a1 x0 x1=some r → Calls Tryz.prog g1 (fs1 ++ [Value.agg (Zp x0).toArray,Value.agg ds1.toArray] ++ cp1).toArray w1 (Ret fun u w'=>u=.bool r ∧ Ext w1 w')) {r : Bool} (hm : Kf a0 a1=some r) :
    Calls Tryz.prog 216 [.agg cs0.toArray,.func (.func g1) fs1.toArray cp1.toArray].toArray w (Ret fun u w'=>u=.bool r ∧ Ext w w'):=by
  obtain⟨aM,aN,aO,aP,aQ,aR,aS,aT,aU,aV,aG,rfl,bO,bP,aA,bQ,bR,bS,bT,bU,bV,aB,bN⟩:=h0
  have hS:=St.begin NB w
  unfold Kf at hm
  refine enter Tryz.func216 rfl rfl rfl ?_;intro a H;dsimp only [Qn,Nat.zero_add,Nat.reduceAdd] at H
  refine wp_seq (wp_region_lit (Yy H rfl (cs:=[.int .i64 a0.p_.Id,.bool a0.p_.Mobile,aM,aN,aO,.int .i64 a0.p_.Events,aP,.int .i64 a0.s_.Id,.int .i64 a0.s_.Frame,.int .i64 a0.s_.Epoch,aQ,aR,aS,aT,aU,aV,aG]) rfl rfl ?_))
  clear H;intro bF cD hN bI hs;clear a;intro a H
  replace hS:=hS.newBlk hN bI hs;clear hN hs
  refine n_q H (Zb rfl) rfl ?_;clear H a;intro a H
  refine Ze (Za (wp_seq (wp_seq (wp_region_lit (n_q H (Zc rfl Zaz) rfl (W_q (Zc rfl Tu) rfl (W_q (Zf rfl ((hS.blk 0 rfl).ld Zk2 rfl)) rfl ?_)))))));clear H a;intro a H
  obtain⟨cF,cG,aD,b9,cA⟩:=SlR.formV (aA.ext (Zi.mono _) hS.x)
  refine n_q H (Qc Tryz.underlying24 rfl aD) rfl (W_q (Zc rfl Gj) rfl (W_q (Xh rfl Zhx) rfl (W_q (Zf rfl ((hS.blk 0 rfl).ld ag31 rfl)) rfl ?_)));clear H a;intro a H
  obtain⟨cH,cI,aE,cB,cC⟩:=SlR.formV (aB.ext Qe.mono hS.x)
  refine n_q H (Qc Tryz.underlying31 rfl aE) rfl (W_q (Zpb rfl rfl) rfl (W_q (Zd rfl) rfl ?_));clear H a;intro a H
  refine Ze (Za (wp_block ?_))
  replace hm:=Zj hm;obtain⟨bB,hm,bC⟩:=hm;replace hm:=Ql hm;obtain⟨bW,hm⟩:=hm
  refine Kr (σ:=Nat × Int) (fun (m,aC)=>[(1,.func (.func g1) fs1.toArray cp1.toArray),(2,.pointer (some ⟨bF,0,none⟩)),(14,.int .i64 (if ((a0.s_.Ports.length : Nat) : Int) < ((a0.p_.Ports.length : Nat) : Int) then ((a0.s_.Ports.length : Nat) : Int) else ((a0.p_.Ports.length : Nat) : Int))),(15,.int .i64 aC)]) (fun (m,aC) wl=>Ye (Jx a0 a1) m aC=some bB ∧ St NB w wl [blkR bF [.int .i64 a0.p_.Id,.bool a0.p_.Mobile,aM,aN,aO,.int .i64 a0.p_.Events,aP,.int .i64 a0.s_.Id,.int .i64 a0.s_.Frame,.int .i64 a0.s_.Epoch,aQ,aR,aS,aT,aU,aV,aG] 219]) (fun (m,aC)=>m) (bW,0) H ⟨rfl,rfl,rfl,rfl,trivial⟩ ⟨hm,hS⟩ ?_
  clear H hS hm a;intro xx a bG H hR;obtain⟨m,aC⟩:=xx;simp only [ent,List.map_cons,List.map_nil] at H;(try dsimp only at hR);obtain⟨hm,hS⟩:=hR
  replace hm:=Qh hm;obtain⟨bX,cJ,rfl,hm,aI⟩:=hm;try dsimp only [Jx] at hm
  refine wp_seq (wp_region_lit (n_q H (Za5 rfl rfl) rfl ?_));clear H a;intro a H
  refine Ze (Za (wp_seq (Zn H rfl (fun aJ=>?_) (fun aJ=>?_))))
  · replace hm:=Zu hm aJ
    refine wp_skip (Za (wp_seq (wp_block (wp_seq (wp_region_lit (n_q H (Zd rfl) rfl (W_q (Zb rfl) rfl ?_)))))));clear H a;intro a H
    refine Ze (Za (wp_seq (Tm [] 15 (by kernel_rfl) ?_)))
    obtain⟨bH,aK⟩ : ∃ x,x=bG.drew:=⟨_,rfl⟩;rw [← aK];have bJ : Ext bG bH:=by rw [aK];exact Ext.drew' _
    clear aK
    replace hS:=hS.ext bJ
    have aF:=hS
    have hW:=Nat.le_refl bH.heap.size
    refine Zg 0 H rfl (Zd rfl) rfl (by kernel_rfl) (by kernel_rfl) (by kernel_rfl) (by kernel_rfl) (fun _ _ _ h=>h) ?_;clear H a;intro a H
    refine Zg 1 H rfl (Zc rfl Zaz) rfl (by kernel_rfl) (by kernel_rfl) (by kernel_rfl) (by kernel_rfl) (fun _ _ _ h=>h) ?_;clear H a;intro a H
    refine Zg 2 H rfl (Zc rfl Tu) rfl (by kernel_rfl) (by kernel_rfl) (by kernel_rfl) (by kernel_rfl) (fun _ _ _ h=>h) ?_;clear H a;intro a H
    refine Qr 3 H rfl (Zf rfl (LdC.old ((aF.blk 0 rfl).ld Zk2 rfl) Ext.rfl' (Nat.le_refl _) (by simp))) rfl (by kernel_rfl) (by kernel_rfl) (by kernel_rfl) (by kernel_rfl) (fun _ _ _ h=>h) ?_;clear H a;intro a H
    refine Zg 4 H rfl (Zd rfl) rfl (by kernel_rfl) (by kernel_rfl) (by kernel_rfl) (by kernel_rfl) (fun _ _ _ h=>h) ?_;clear H a;intro a H
    replace hm:=Zj hm;obtain⟨bY,bK,hm⟩:=hm
    obtain⟨h0x34,h1x34,aW⟩:=Ho bK
    obtain⟨b6,aX⟩:=SlR.adV (aA.ext (Zi.mono _) hS.x) aD aW
    refine Zg 5 H rfl (Zch Tryz.underlying24 Gp rfl aD aX rfl h0x34 h1x34) rfl (by kernel_rfl) (by kernel_rfl) (by kernel_rfl) (by kernel_rfl) (fun _ _ _ h=>h) ?_;clear H a;intro a H
    refine Qr 6 H rfl (Zf rfl (LdC.old (SlR.ldAggV (aA.ext (Zi.mono _) aF.x) aD aX Zdp Gp aW) Ext.rfl' (Nat.le_refl _) (by simp))) rfl (by kernel_rfl) (by kernel_rfl) (by kernel_rfl) (by kernel_rfl) (fun _ _ _ h=>h) ?_;clear H a;intro a H
    refine Zg 7 H rfl (Zc rfl Gj) rfl (by kernel_rfl) (by kernel_rfl) (by kernel_rfl) (by kernel_rfl) (fun _ _ _ h=>h) ?_;clear H a;intro a H
    refine Zg 8 H rfl (Xh rfl Zhx) rfl (by kernel_rfl) (by kernel_rfl) (by kernel_rfl) (by kernel_rfl) (fun _ _ _ h=>h) ?_;clear H a;intro a H
    refine Qr 9 H rfl (Zf rfl (LdC.old ((aF.blk 0 rfl).ld ag31 rfl) Ext.rfl' (Nat.le_refl _) (by simp))) rfl (by kernel_rfl) (by kernel_rfl) (by kernel_rfl) (by kernel_rfl) (fun _ _ _ h=>h) ?_;clear H a;intro a H
    refine Zg 10 H rfl (Zd rfl) rfl (by kernel_rfl) (by kernel_rfl) (by kernel_rfl) (by kernel_rfl) (fun _ _ _ h=>h) ?_;clear H a;intro a H
    replace hm:=Zj hm;obtain⟨aY,bL,hm⟩:=hm
    obtain⟨h0x35,h1x35,aZ⟩:=Ho bL
    obtain⟨b7,a9⟩:=SlR.adV (aB.ext Qe.mono hS.x) aE aZ
    obtain⟨b8,bZ,⟨aH,rfl,bA⟩,bE⟩:=SlR.elV aB aE a9 aZ
    refine Zg 11 H rfl (Zch Tryz.underlying31 Zhy rfl aE a9 rfl h0x35 h1x35) rfl (by kernel_rfl) (by kernel_rfl) (by kernel_rfl) (by kernel_rfl) (fun _ _ _ h=>h) ?_;clear H a;intro a H
    refine Qr 12 H rfl (Zf rfl (LdC.old (LdX.ext (ldEl Zt3 Zhy rfl bE) aF.x) Ext.rfl' (Nat.le_refl _) (by simp))) rfl (by kernel_rfl) (by kernel_rfl) (by kernel_rfl) (by kernel_rfl) (fun _ _ _ h=>h) ?_;clear H a;intro a H
    replace hm:=Zj hm;obtain⟨cK,bM,hm⟩:=hm
    refine Qy 13 (by kernel_rfl) ?_
    refine Zri 13 H rfl rfl rfl he1 (hf1 _ hS.x bY [aH,.int .i64 aY.Age] aY _ (⟨_,rfl,(bA.ext (Zi.mono _) hS.x)⟩ : Qe _ [aH,.int .i64 aY.Age] aY) bM) rfl (fun v w hv=>.inl (ChgF.of_ext (by obtain⟨_,hE0⟩:=hv;exact hE0))) ?_
    clear H;intro cL cM hv;clear a;intro a H;obtain⟨rfl,bD⟩:=hv
    replace hS:=hS.ext bD
    replace hW:=Nat.le_trans hW bD.size
    refine Zg 14 H rfl (Zb1 rfl) rfl (by kernel_rfl) (by kernel_rfl) (by kernel_rfl) (by kernel_rfl) (fun _ _ _ h=>h) ?_;clear H a;intro a H
    refine Xc (by kernel_rfl) ?_
    refine Za (Zn H rfl (fun aL=>?_) (fun aL=>?_))
    · replace hm:=Zu hm aL
      refine wp_seq (wp_region_lit (n_q H (Zb rfl) rfl ?_));clear H a;intro a H
      refine Ze (Za (wp_ret (Zl (Zh (Zh (Zl (Zh ?_)))))))
      obtain rfl:=Option.some.inj hm;have hz : _=bB:=aI;subst hz;replace hm:=bC;try dsimp only at hm
      obtain rfl:=Option.some.inj hm
      replace hS:=hS.tk0
      refine Qx H (.inr rfl) rfl rfl ?_
      exact⟨rfl,hS.x⟩
    replace hm:=Zv hm aL
    refine wp_skip (Zo (Za (wp_region_lit (n_q H (Uo rfl rfl) rfl (W_q (Zd rfl) rfl ?_)))));clear H a;intro a H
    refine Ze (Za ?_)
    obtain rfl:=Option.some.inj hm
    exact Uz (bX,(IntKind.i64.wrap (aC + 1))) H ⟨rfl,rfl,rfl,rfl,trivial⟩ ⟨aI,hS⟩ (Nat.lt_succ_self _)
  replace hm:=Zv hm aJ
  refine wp_exit (Zr (Zr (Qf ?_)))
  obtain rfl:=Option.some.inj hm;have hz : _=bB:=aI;subst hz;replace hm:=bC;try dsimp only at hm
  refine Za (wp_seq (wp_region_lit (n_q H (Zb rfl) rfl ?_)));clear H a;intro a H
  refine Ze (Za (wp_ret ?_))
  obtain rfl:=Option.some.inj hm
  replace hS:=hS.tk0
  refine Qx H (.inr rfl) rfl rfl ?_
  exact⟨rfl,hS.x⟩
theorem Zbs {w : World} {A : Nat → Addr} {v0 : Value} {a0 : List ByteArray} {g1 : Nat} {fs1 : List Value} {cp1 : List Value} {a1 : ByteArray → Option Bool} (h0 : SlR w 1 (Zi eS) v0 a0) (he1 : Zq Tryz.prog g1=true) (hf1 : ∀ w1,Ext w w1 → ∀ (x0 : ByteArray) (r : Bool),a1 x0=some r → Calls Tryz.prog g1 (fs1 ++ [Value.string x0] ++ cp1).toArray w1 (Ret fun u w'=>u=.bool r ∧ Ext w1 w')) {r : Int} (hm : Ys a0 a1=some r) :
    Calls Tryz.prog 247 [v0,.func (.func g1) fs1.toArray cp1.toArray].toArray w (Ret fun u w'=>u=.int .i64 r ∧ Ext w w'):=by
  have hS:=St.begin NB w
  unfold Ys at hm
  refine enter Tryz.func247 rfl rfl rfl ?_;intro a H;dsimp only [Qn,Nat.zero_add,Nat.reduceAdd] at H
  refine wp_seq (wp_region_lit (n_q H (Zb rfl) rfl ?_));clear H a;intro a H
  refine Ze (Za (wp_seq (wp_seq (wp_region_lit (n_q H (Zd rfl) rfl ?_)))));clear H a;intro a H
  obtain⟨aS,aT,aB,aQ,aR⟩:=SlR.formV (h0.ext (Zi.mono _) hS.x)
  refine n_q H (Qc Tryz.underlying152 rfl aB) rfl (W_q (Zd rfl) rfl ?_);clear H a;intro a H
  refine Ze (Za (wp_block ?_))
  replace hm:=Zj hm;obtain⟨aH,hm,aI⟩:=hm;replace hm:=Ql hm;obtain⟨aL,hm⟩:=hm
  refine Kr (σ:=Nat × Nat) (fun (m,aA)=>[(0,v0),(1,.func (.func g1) fs1.toArray cp1.toArray),(7,.int .i64 ((a0.length : Nat) : Int)),(8,.int .i64 ((aA : Nat) : Int))]) (fun (m,aA) wl=>Ye (Xe a0 a1) m aA=some aH ∧ St NB w wl []) (fun (m,aA)=>m) (aL,0) H ⟨rfl,rfl,rfl,rfl,trivial⟩ ⟨hm,hS⟩ ?_
  clear H hS hm a;intro xx a aU H hR;obtain⟨m,aA⟩:=xx;simp only [ent,List.map_cons,List.map_nil] at H;(try dsimp only at hR);obtain⟨hm,hS⟩:=hR
  replace hm:=Qh hm;obtain⟨aM,aV,rfl,hm,aD⟩:=hm;try dsimp only [Xe] at hm
  refine wp_seq (wp_region_lit (n_q H (Yc (i:=aA) (j:=a0.length) rfl rfl) rfl ?_));clear H a;intro a H
  refine Ze (Za (wp_seq (Zn H rfl (fun aC=>?_) (fun aC=>?_))))
  · replace hm:=Zu hm aC
    have aO : aA < a0.length:=of_decide_eq_true aC
    refine wp_skip (Za (wp_seq (wp_block (wp_seq (wp_region_lit (n_q H (Zd rfl) rfl (W_q (Zb rfl) rfl ?_)))))));clear H a;intro a H
    refine Ze (Za (wp_seq (wp_region_lit (n_q H (Zd rfl) rfl (W_q (Zd rfl) rfl (W_q (Zd rfl) rfl ?_))))));clear H a;intro a H
    replace hm:=Zj hm;obtain⟨aN,aE,hm⟩:=hm
    obtain⟨aP,aG⟩:=SlR.adV (h0.ext (Zi.mono _) hS.x) aB aE
    refine n_q H (Ug (i:=aA) Tryz.underlying152 sz9 rfl aB aG rfl (Zb5 aE)) rfl (W_q (Zf rfl (SlR.ldOneV (h0.ext (Zi.mono _) hS.x) aB aG ag9 aE rfl)) rfl ?_);clear H a;intro a H
    replace hm:=Zj hm;obtain⟨aW,aJ,hm⟩:=hm
    refine Zeu H rfl rfl he1 (hf1 _ hS.x aN _ aJ) rfl ?_
    clear H;intro aX aY hv;clear a;intro a H;obtain⟨rfl,aK⟩:=hv
    replace hS:=hS.ext aK
    refine Ze (Za (Zn H rfl (fun aF=>?_) (fun aF=>?_)))
    · replace hm:=Zu hm aF
      refine wp_seq (wp_region_lit (n_q H (Zd rfl) rfl (W_q (Zb rfl) rfl ?_)));clear H a;intro a H
      refine Ze (Za (wp_ret (Zl (Zh (Zh (Zl (Zh ?_)))))))
      obtain rfl:=Option.some.inj hm;have hz : _=aH:=aD;subst hz;replace hm:=aI;try dsimp only at hm
      obtain rfl:=Option.some.inj hm
      refine Qx H (.inr rfl) rfl rfl ?_
      exact⟨rfl,hS.x⟩
    replace hm:=Zv hm aF
    refine wp_skip (Zo (Za (wp_region_lit (n_q H (Yt (i:=aA) (j:=1) rfl rfl (by omega)) rfl (W_q (Zd rfl) rfl ?_)))));clear H a;intro a H
    refine Ze (Za ?_)
    obtain rfl:=Option.some.inj hm
    exact Uz (aM,aA + 1) H ⟨rfl,rfl,rfl,rfl,trivial⟩ ⟨aD,hS⟩ (Nat.lt_succ_self _)
  replace hm:=Zv hm aC
  refine wp_exit (Zr (Zr (Qf ?_)))
  obtain rfl:=Option.some.inj hm;have hz : _=aH:=aD;subst hz;replace hm:=aI;try dsimp only at hm
  refine Za (wp_seq (wp_region_lit (n_q H (Zb rfl) rfl ?_)));clear H a;intro a H
  refine Ze (Za (wp_ret ?_))
  obtain rfl:=Option.some.inj hm
  refine Qx H (.inr rfl) rfl rfl ?_
  exact⟨rfl,hS.x⟩
theorem Zar {w : World} {A : Nat → Addr} {v0 : Value} {a0 : List ByteArray} {g1 : Nat} {fs1 : List Value} {cp1 : List Value} {a1 : ByteArray → Option Bool} (h0 : SlR w 1 (Zi eS) v0 a0) (he1 : Zq Tryz.prog g1=true) (hf1 : ∀ w1,Ext w w1 → ∀ (x0 : ByteArray) (r : Bool),a1 x0=some r → Calls Tryz.prog g1 (fs1 ++ [Value.string x0] ++ cp1).toArray w1 (Ret fun u w'=>u=.bool r ∧ Ext w1 w')) {r : Bool} (hm : Ja a0 a1=some r) :
    Calls Tryz.prog 218 [v0,.func (.func g1) fs1.toArray cp1.toArray].toArray w (Ret fun u w'=>u=.bool r ∧ Ext w w'):=by
  have hS:=St.begin NB w
  unfold Ja at hm
  refine enter Tryz.func218 rfl rfl rfl ?_;intro a H;dsimp only [Qn,Nat.zero_add,Nat.reduceAdd] at H
  refine wp_seq (wp_region_lit (n_q H (Zb rfl) rfl ?_));clear H a;intro a H
  refine Ze (Za (wp_seq (wp_region_lit (n_q H (Zd rfl) rfl (W_q (Zd rfl) rfl ?_)))));clear H a;intro a H
  replace hm:=Zj hm;obtain⟨aC,aA,hm⟩:=hm
  refine Zk H rfl en247 (Zbs (A:=A) (h0.ext (Zi.mono _) hS.x) (g1:=g1) (fs1:=fs1) (cp1:=cp1) (a1:=a1) he1 (fun w1 e1=>hf1 w1 (Ext.trans' hS.x e1)) aA) rfl ?_
  clear H;intro aD aE hv;clear a;intro a H;obtain⟨rfl,aB⟩:=hv
  replace hS:=hS.ext aB
  refine n_q H (Zob rfl rfl) rfl (W_q (Zb rfl) rfl ?_);clear H a;intro a H
  refine Ze (Za (wp_ret ?_))
  obtain rfl:=Option.some.inj hm
  refine Qx H (.inr rfl) rfl rfl ?_
  exact⟨rfl,hS.x⟩
theorem Zca {w : World} {A : Nat → Addr} {a0 : ByteArray} {b1 : Nat} {a1 : GPortPlan} (hb1 : Blk w b1 (Zp a1) 118) {r : Bool} (hm : Kv a0 a1=some r) :
    Calls Tryz.prog 219 [.string a0,.pointer (some ⟨b1,0,none⟩)].toArray w (Ret fun u w'=>u=.bool r ∧ Ext w w'):=by
  have hS:=St.begin NB w
  unfold Kv at hm
  refine enter Tryz.func219 rfl rfl rfl ?_;intro a H;dsimp only [Qn,Nat.zero_add,Nat.reduceAdd] at H
  refine wp_seq (wp_region_lit (n_q H (Zb rfl) rfl ?_));clear H a;intro a H
  refine Ze (Za (wp_seq (wp_region_lit (n_q H (Zd rfl) rfl (W_q (Zsx Tryz.underlying9 rfl) rfl (W_q (Zc rfl Zhq) rfl (W_q (Zf rfl ((hb1.ext hS.x).ld ag3 rfl)) rfl (W_q (Zcd rfl rfl) rfl (W_q (Zb rfl) rfl ?_)))))))));clear H a;intro a H
  refine Ze (Za (wp_ret ?_))
  obtain rfl:=Option.some.inj hm
  refine Qx H (.inr rfl) rfl rfl ?_
  exact⟨rfl,hS.x⟩
theorem Zc1 {w : World} {A : Nat → Addr} {a0 : GPortPlan} {cs1 : List Value} {a1 : GPort} (h1 : Qe w cs1 a1) {r : Bool} (hm : Kj a0 a1=some r) :
    Calls Tryz.prog 217 [.agg (Zp a0).toArray,.agg cs1.toArray].toArray w (Ret fun u w'=>u=.bool r ∧ Ext w w'):=by
  obtain⟨aC,rfl,aB⟩:=h1
  have hS:=St.begin NB w
  unfold Kj at hm
  refine enter Tryz.func217 rfl rfl rfl ?_;intro a H;dsimp only [Qn,Nat.zero_add,Nat.reduceAdd] at H
  refine wp_seq (wp_region_lit (Yy H rfl (cs:=[.int .i64 a0.Kind,.int .i64 a0.Size,.int .i64 a0.Depth,.int .i64 a0.Refresh]) rfl rfl ?_))
  clear H;intro aD aL hN aE hs;clear a;intro a H
  replace hS:=hS.newBlk hN aE hs;clear hN hs
  refine Yy H rfl (cs:=[aC,.int .i64 a1.Age]) rfl rfl ?_
  clear H;intro aM aN hN aF hs;clear a;intro a H
  replace hS:=hS.newBlk hN aF hs;clear hN hs
  refine n_q H (Zb rfl) rfl ?_;clear H a;intro a H
  refine Ze (Za (wp_seq (wp_region_lit (n_q H (Zc rfl Ze5) rfl (W_q (Zf rfl ((hS.blk 0 rfl).ld Zmx rfl)) rfl ?_)))));clear H a;intro a H
  obtain⟨aO,aP,aG,aJ,aK⟩:=SlR.formV (aB.ext (Zi.mono _) hS.x)
  refine n_q H (Qc Tryz.underlying152 rfl aG) rfl (W_q (Zc rfl Zf5) rfl (W_q (Zf rfl ((hS.blk 1 rfl).ld ag3 rfl)) rfl (W_q (Zq5 rfl rfl) rfl (W_q (Zd rfl) rfl ?_))));clear H a;intro a H
  rcases Bool.eq_false_or_eq_true (decide (((a1.Msgs.length : Nat) : Int) ≤ a0.Depth)) with aA|aA
  · replace H:=H.know 11 rfl aA
    replace hm:=Zu hm aA
    refine Kq H rfl rfl (n_q H (Zc rfl Ze5) rfl (Zy rfl rfl (W_q (Zf rfl ((hS.blk 0 rfl).ld Zmx rfl)) rfl (Zy rfl rfl (W_q (Gr (f:=[]) (c:=[.pointer (some ⟨aD,0,none⟩)]) rfl rfl) rfl (Zy rfl rfl ?_))))));clear H a;intro a H
    replace hm:=Zj hm;obtain⟨aQ,aH,hm⟩:=hm
    refine Zk H rfl en218 (Zar (A:=A) (aB.ext (Zi.mono _) hS.x) (g1:=219) (fs1:=[]) (cp1:=[.pointer (some ⟨aD,0,none⟩)]) (a1:=(fun x0=>Kv x0 a0)) en219 (fun w1 e1 x0 r hr=>Zca (A:=A) ((hS.blk 1 rfl).ext e1) hr) aH) rfl ?_
    clear H;intro aR aS hv;clear a;intro a H;obtain⟨rfl,aI⟩:=hv
    replace hS:=hS.ext aI
    refine Kq H rfl rfl (n_q H (Zb1 rfl) rfl (W_q (Zx rfl rfl) rfl (W_q (Zb rfl) rfl ?_)));clear H a;intro a H
    refine Ze (Za (wp_ret ?_))
    obtain rfl:=Option.some.inj hm
    replace hS:=hS.tk0
    refine Qx H (.inr rfl) rfl rfl ?_
    exact⟨rfl,hS.x⟩
  replace H:=H.know 11 rfl aA
  replace hm:=Zv hm aA
  refine Tp H rfl rfl (by decide) rfl (Zz rfl rfl (by decide) rfl (Zz rfl rfl (by decide) rfl (Zz rfl rfl (by decide) rfl (Zz rfl rfl (by decide) rfl (W_q (Zt rfl rfl) rfl (W_q (Zb rfl) rfl ?_))))));clear H a;intro a H
  refine Ze (Za (wp_ret ?_))
  obtain rfl:=Option.some.inj hm
  replace hS:=hS.tk0
  refine Qx H (.inr rfl) rfl rfl ?_
  exact⟨rfl,hS.x⟩
theorem Zc2 {w : World} {A : Nat → Addr} {a0 : GPortPlan} {cs1 : List Value} {a1 : GPort} (h1 : Qe w cs1 a1) {r : Bool} (hm : Kk a0 a1=some r) :
    Calls Tryz.prog 220 [.agg (Zp a0).toArray,.agg cs1.toArray].toArray w (Ret fun u w'=>u=.bool r ∧ Ext w w'):=by
  obtain⟨aE,rfl,aD⟩:=h1
  have hS:=St.begin NB w
  unfold Kk at hm
  refine enter Tryz.func220 rfl rfl rfl ?_;intro a H;dsimp only [Qn,Nat.zero_add,Nat.reduceAdd] at H
  refine wp_seq (wp_region_lit (Yy H rfl (cs:=[.int .i64 a0.Kind,.int .i64 a0.Size,.int .i64 a0.Depth,.int .i64 a0.Refresh]) rfl rfl ?_))
  clear H;intro aN aO hN aF hs;clear a;intro a H
  replace hS:=hS.newBlk hN aF hs;clear hN hs
  refine Yy H rfl (cs:=[aE,.int .i64 a1.Age]) rfl rfl ?_
  clear H;intro aP aQ hN aG hs;clear a;intro a H
  replace hS:=hS.newBlk hN aG hs;clear hN hs
  refine n_q H (Zb rfl) rfl ?_;clear H a;intro a H
  refine Ze (Za (wp_seq (wp_region_lit (n_q H (Zc rfl Zmy) rfl (W_q (Zf rfl ((hS.blk 0 rfl).ld ag3 rfl)) rfl ?_)))));clear H a;intro a H
  replace hm:=Zj hm;obtain⟨aK,aH,hm⟩:=hm
  refine Zk H rfl Zlc (Ko (A:=A) aH) rfl ?_
  clear H;intro aR aS hv;clear a;intro a H;obtain⟨rfl,aI⟩:=hv
  replace hS:=hS.ext aI
  refine n_q H (Zd rfl) rfl ?_;clear H a;intro a H
  rcases Bool.eq_false_or_eq_true aK with aA|aA
  · replace H:=H.know 8 rfl aA
    replace hm:=Zu hm aA
    refine Kq H rfl rfl (n_q H (Zc rfl Zmy) rfl (Zy rfl rfl (W_q (Zf rfl ((hS.blk 0 rfl).ld ag3 rfl)) rfl (Zy rfl rfl (W_q (Jy rfl rfl) rfl (Zy rfl rfl (W_q (Zd rfl) rfl ?_)))))));clear H a;intro a H
    rcases Bool.eq_false_or_eq_true (decide (a1.Age=0)) with aB|aB
    · replace H:=H.know 12 rfl aB
      replace hm:=Zu hm aB
      refine Tp H rfl rfl (by decide) rfl (Zz rfl rfl (by decide) rfl (Zz rfl rfl (by decide) rfl (Zz rfl rfl (by decide) rfl (Zcl rfl rfl rfl (Zcl rfl rfl rfl (Zcl rfl rfl rfl (Zcl rfl rfl rfl (Zz rfl rfl (by decide) rfl (Zy rfl rfl (W_q (Zx rfl rfl) rfl (W_q (Zx rfl rfl) rfl ?_)))))))))));clear H a;intro a H
      refine n_q H (Zb rfl) rfl ?_;clear H a;intro a H
      refine Ze (Za (wp_ret ?_))
      obtain rfl:=Option.some.inj hm
      replace hS:=hS.tk0
      refine Qx H (.inr rfl) rfl rfl ?_
      exact⟨rfl,hS.x⟩
    replace H:=H.know 12 rfl aB
    replace hm:=Zv hm aB
    refine Kq H rfl rfl (n_q H (Zc rfl Tt) rfl (Zy rfl rfl (W_q (Zf rfl ((hS.blk 1 rfl).ld ag3 rfl)) rfl (Zy rfl rfl (W_q (Jy rfl rfl) rfl (Zy rfl rfl (W_q (Zd rfl) rfl ?_)))))));clear H a;intro a H
    rcases Bool.eq_false_or_eq_true (decide (a0.Kind=1)) with aC|aC
    · replace H:=H.know 16 rfl aC
      replace hm:=Zu hm aC
      refine Kq H rfl rfl (n_q H (Zc rfl Ze5) rfl (Zy rfl rfl (W_q (Zf rfl ((hS.blk 0 rfl).ld Zmx rfl)) rfl (Zy rfl rfl ?_))));clear H a;intro a H
      obtain⟨aT,aU,aJ,aL,aM⟩:=SlR.formV (aD.ext (Zi.mono _) hS.x)
      refine n_q H (Qc Tryz.underlying152 rfl aJ) rfl (Zy rfl rfl (W_q (Zgf (i:=a1.Msgs.length) (j:=0) rfl rfl) rfl (Zy rfl rfl (W_q (Zx rfl rfl) rfl (Zy rfl rfl (W_q (Zt rfl rfl) rfl (W_q (Zx rfl rfl) rfl (W_q (Zb rfl) rfl ?_))))))));clear H a;intro a H
      refine Ze (Za (wp_ret ?_))
      obtain rfl:=Option.some.inj hm
      replace hS:=hS.tk0
      refine Qx H (.inr rfl) rfl rfl ?_
      exact⟨rfl,hS.x⟩
    replace H:=H.know 16 rfl aC
    replace hm:=Zv hm aC
    refine Tp H rfl rfl (by decide) rfl (Zz rfl rfl (by decide) rfl (Zz rfl rfl (by decide) rfl (Zz rfl rfl (by decide) rfl (Zy rfl rfl (W_q (Zt rfl rfl) rfl (Zy rfl rfl (W_q (Zt rfl rfl) rfl (W_q (Zx rfl rfl) rfl (W_q (Zb rfl) rfl ?_)))))))));clear H a;intro a H
    refine Ze (Za (wp_ret ?_))
    obtain rfl:=Option.some.inj hm
    replace hS:=hS.tk0
    refine Qx H (.inr rfl) rfl rfl ?_
    exact⟨rfl,hS.x⟩
  replace H:=H.know 8 rfl aA
  replace hm:=Zv hm aA
  refine Tp H rfl rfl (by decide) rfl (Zz rfl rfl (by decide) rfl (Zz rfl rfl (by decide) rfl (Zz rfl rfl (by decide) rfl (Zcl rfl rfl rfl (Zcl rfl rfl rfl (Zcl rfl rfl rfl (Zcl rfl rfl rfl (Zcl rfl rfl rfl (Zcl rfl rfl rfl (Zcl rfl rfl rfl (Zcl rfl rfl rfl ?_)))))))))));clear H a;intro a H
  refine Zti H rfl rfl rfl (Zz rfl rfl (by decide) rfl (W_q (Zt rfl rfl) rfl (W_q (Zb rfl) rfl ?_)));clear H a;intro a H
  refine Ze (Za (wp_ret ?_))
  obtain rfl:=Option.some.inj hm
  replace hS:=hS.tk0
  refine Qx H (.inr rfl) rfl rfl ?_
  exact⟨rfl,hS.x⟩
theorem Zdd {w : World} {A : Nat → Addr} {cs0 : List Value} {a0 : GValidAsked} (h0 : Qj w cs0 a0) {r : Bool} (hm : Vp a0=some r) :
    Calls Tryz.prog 221 [.agg cs0.toArray].toArray w (Ret fun u w'=>u=.bool r ∧ Ext w w'):=by
  obtain⟨aJ,aK,aL,aM,aN,aO,aP,aQ,aR,aS,aF,rfl,aB,bD,bE,bF,bG,bH,bI,bJ,bK,bL,aA⟩:=h0
  have hS:=St.begin NB w
  unfold Vp at hm
  refine enter Tryz.func221 rfl rfl rfl ?_;intro a H;dsimp only [Qn,Nat.zero_add,Nat.reduceAdd] at H
  refine wp_seq (wp_region_lit (Yy H rfl (cs:=[.int .i64 a0.p_.Id,.bool a0.p_.Mobile,aJ,aK,aL,.int .i64 a0.p_.Events,aM,.int .i64 a0.s_.Id,.int .i64 a0.s_.Frame,.int .i64 a0.s_.Epoch,aN,aO,aP,aQ,aR,aS,aF]) rfl rfl ?_))
  clear H;intro aZ bV hN a9 hs;clear a;intro a H
  replace hS:=hS.newBlk hN a9 hs;clear hN hs
  refine n_q H (Zb rfl) rfl ?_;clear H a;intro a H
  refine Ze (Za (wp_seq (wp_seq (wp_region_lit (n_q H (Zc rfl Zaz) rfl (W_q (Zc rfl Zap) rfl (W_q (Zf rfl ((hS.blk 0 rfl).ld Zmo rfl)) rfl ?_)))))));clear H a;intro a H
  obtain⟨bW,bX,aD,bR,bS⟩:=SlR.formV (aB.ext (Zi.mono _) hS.x)
  refine n_q H (Qc Tryz.underlying22 rfl aD) rfl (W_q (Zc rfl Gj) rfl (W_q (Xh rfl Zgj) rfl (W_q (Zf rfl ((hS.blk 0 rfl).ld ag32 rfl)) rfl ?_)));clear H a;intro a H
  obtain⟨bY,bZ,aE,bT,bU⟩:=SlR.formV (aA.ext (Zi.mono _) hS.x)
  refine n_q H (Qc Tryz.underlying32 rfl aE) rfl (W_q (Zpb rfl rfl) rfl (W_q (Zd rfl) rfl ?_));clear H a;intro a H
  refine Ze (Za (wp_block ?_))
  replace hm:=Zj hm;obtain⟨aX,hm,aY⟩:=hm;replace hm:=Ql hm;obtain⟨bM,hm⟩:=hm
  refine Kr (σ:=Nat × Int) (fun (m,aC)=>[(1,.pointer (some ⟨aZ,0,none⟩)),(12,.int .i64 (if ((a0.s_.Pages.length : Nat) : Int) < ((a0.p_.Pages.length : Nat) : Int) then ((a0.s_.Pages.length : Nat) : Int) else ((a0.p_.Pages.length : Nat) : Int))),(13,.int .i64 aC)]) (fun (m,aC) wl=>Ye (Jo a0) m aC=some aX ∧ St NB w wl [blkR aZ [.int .i64 a0.p_.Id,.bool a0.p_.Mobile,aJ,aK,aL,.int .i64 a0.p_.Events,aM,.int .i64 a0.s_.Id,.int .i64 a0.s_.Frame,.int .i64 a0.s_.Epoch,aN,aO,aP,aQ,aR,aS,aF] 219]) (fun (m,aC)=>m) (bM,0) H ⟨rfl,rfl,rfl,trivial⟩ ⟨hm,hS⟩ ?_
  clear H hS hm a;intro xx a b6 H hR;obtain⟨m,aC⟩:=xx;simp only [ent,List.map_cons,List.map_nil] at H;(try dsimp only at hR);obtain⟨hm,hS⟩:=hR
  replace hm:=Qh hm;obtain⟨bN,b7,rfl,hm,aG⟩:=hm;try dsimp only [Jo] at hm
  refine wp_seq (wp_region_lit (n_q H (Za5 rfl rfl) rfl ?_));clear H a;intro a H
  refine Ze (Za (wp_seq (Zn H rfl (fun aH=>?_) (fun aH=>?_))))
  · replace hm:=Zu hm aH
    refine wp_skip (Za (wp_seq (wp_block (wp_seq (wp_region_lit (n_q H (Zd rfl) rfl (W_q (Zb rfl) rfl ?_)))))));clear H a;intro a H
    refine Ze (Za (wp_seq (Gw (by kernel_rfl) (by kernel_rfl) ?_)))
    refine Xn H (Zc rfl Zaz) rfl ?_;clear H a;intro a H
    refine Xn H (Zc rfl Zap) rfl ?_;clear H a;intro a H
    refine Xn H (Zf rfl ((hS.blk 0 rfl).ld Zmo rfl)) rfl ?_;clear H a;intro a H
    refine Xn H (Zd rfl) rfl ?_;clear H a;intro a H
    replace hm:=Zj hm;obtain⟨b8,bA,hm⟩:=hm
    obtain⟨h0x31,h1x31,aT⟩:=Ho bA
    obtain⟨bP,aU⟩:=SlR.adV (aB.ext (Zi.mono _) hS.x) aD aT
    refine Xn H (Zch Tryz.underlying22 Zax rfl aD aU rfl h0x31 h1x31) rfl ?_;clear H a;intro a H
    refine Xn H (Vg rfl Zho) rfl ?_;clear H a;intro a H
    refine Xn H (Zf rfl (SlR.ldCellV (j:=0) (aB.ext (Zi.mono _) hS.x) aD aU ag3 aT rfl)) rfl ?_;clear H a;intro a H
    refine Xn H (Zc rfl Gj) rfl ?_;clear H a;intro a H
    refine Xn H (Xh rfl Zgj) rfl ?_;clear H a;intro a H
    refine Xn H (Zf rfl ((hS.blk 0 rfl).ld ag32 rfl)) rfl ?_;clear H a;intro a H
    refine Xn H (Zd rfl) rfl ?_;clear H a;intro a H
    replace hm:=Zj hm;obtain⟨bO,bB,hm⟩:=hm
    obtain⟨h0x32,h1x32,aV⟩:=Ho bB
    obtain⟨bQ,aW⟩:=SlR.adV (aA.ext (Zi.mono _) hS.x) aE aV
    refine Xn H (Zch Tryz.underlying32 sz82 rfl aE aW rfl h0x32 h1x32) rfl ?_;clear H a;intro a H
    refine Xn H (Vg rfl fo82_0) rfl ?_;clear H a;intro a H
    refine Xn H (Zf rfl (SlR.ldCellV (j:=0) (u:=Value.int .i64 bO.Rights) (aA.ext (Zi.mono _) hS.x) aE aW ag3 aV (by simp [Jr]))) rfl ?_;clear H a;intro a H
    refine Xn H (Th rfl rfl) rfl ?_;clear H a;intro a H
    refine Tg ?_;intro b9 bC
    replace hS:=hS.ext bC
    refine Za (Zn H rfl (fun aI=>?_) (fun aI=>?_))
    · replace hm:=Zu hm aI
      refine wp_seq (wp_region_lit (n_q H (Zb rfl) rfl ?_));clear H a;intro a H
      refine Ze (Za (wp_ret (Zl (Zh (Zh (Zl (Zh ?_)))))))
      obtain rfl:=Option.some.inj hm;have hz : _=aX:=aG;subst hz;replace hm:=aY;try dsimp only at hm
      obtain rfl:=Option.some.inj hm
      replace hS:=hS.tk0
      refine Qx H (.inr rfl) rfl rfl ?_
      exact⟨rfl,hS.x⟩
    replace hm:=Zv hm aI
    refine wp_skip (Zo (Za (wp_region_lit (n_q H (Uo rfl rfl) rfl (W_q (Zd rfl) rfl ?_)))));clear H a;intro a H
    refine Ze (Za ?_)
    obtain rfl:=Option.some.inj hm
    exact Uz (bN,(IntKind.i64.wrap (aC + 1))) H ⟨rfl,rfl,rfl,trivial⟩ ⟨aG,hS⟩ (Nat.lt_succ_self _)
  replace hm:=Zv hm aH
  refine wp_exit (Zr (Zr (Qf ?_)))
  obtain rfl:=Option.some.inj hm;have hz : _=aX:=aG;subst hz;replace hm:=aY;try dsimp only at hm
  refine Za (wp_seq (wp_region_lit (n_q H (Zb rfl) rfl ?_)));clear H a;intro a H
  refine Ze (Za (wp_ret ?_))
  obtain rfl:=Option.some.inj hm
  replace hS:=hS.tk0
  refine Qx H (.inr rfl) rfl rfl ?_
  exact⟨rfl,hS.x⟩
theorem Zc3 {w : World} {A : Nat → Addr} {a0 : GProc} {b1 : Nat} {cs1 : List Value} {a1 : GState} {b2 : Nat} {cs2 : List Value} {a2 : GPlan} (hb1 : Blk w b1 cs1 34) (h1 : Hg w cs1 a1) (hb2 : Blk w b2 cs2 27) (h2 : Xa w cs2 a2) {r : Bool} (hm : Kl a0 a1 a2=some r) :
    Calls Tryz.prog 222 [.agg (Xf a0).toArray,.pointer (some ⟨b1,0,none⟩),.pointer (some ⟨b2,0,none⟩)].toArray w (Ret fun u w'=>u=.bool r ∧ Ext w w'):=by
  obtain⟨aV,aW,aX,aY,aZ,a9,bA,rfl,aK,aL,aM,aA,aN,aO,aP⟩:=h1
  obtain⟨bB,bC,bD,bE,rfl,aQ,aR,aS,aT⟩:=h2
  have hS:=St.begin NB w
  unfold Kl at hm
  refine enter Tryz.func222 rfl rfl rfl ?_;intro a H;dsimp only [Qn,Nat.zero_add,Nat.reduceAdd] at H
  refine wp_seq (wp_region_lit (Yy H rfl (cs:=(a0.Regs.toList.map (Value.int .u32) ++ [.int .u32 a0.Pc,.int .i64 a0.State,.int .i64 a0.Prio,.int .i64 a0.Wait,.int .i64 a0.Obj])) rfl rfl ?_))
  clear H;intro bI bJ hN aG hs;clear a;intro a H
  replace hS:=hS.newBlk hN aG hs;clear hN hs
  refine n_q H (Zb rfl) rfl ?_;clear H a;intro a H
  refine Ze (Za (wp_seq (wp_region_lit (n_q H (Zc rfl Ze4) rfl (W_q (Zf rfl ((hS.blk 0 rfl).ld (v:=Value.int .i64 a0.Wait) ag3 (by simp))) rfl (W_q (Th rfl rfl) rfl (W_q (Zd rfl) rfl ?_)))))));clear H a;intro a H
  rcases Bool.eq_false_or_eq_true (!decide (a0.Wait=2)) with aB|aB
  · replace H:=H.know 8 rfl aB
    replace hm:=Zu hm aB
    refine Tp H rfl rfl (by decide) rfl (Zz rfl rfl (by decide) rfl (Zz rfl rfl (by decide) rfl (Zz rfl rfl (by decide) rfl (Zz rfl rfl (by decide) rfl (Zz rfl rfl (by decide) rfl (Zz rfl rfl (by decide) rfl (Zz rfl rfl (by decide) rfl (Zz rfl rfl (by decide) rfl (Zz rfl rfl (by decide) rfl (W_q (Zx rfl rfl) rfl (W_q (Zd rfl) rfl ?_)))))))))));clear H a;intro a H
    refine Tp H rfl rfl (by decide) rfl (Zz rfl rfl (by decide) rfl (Zz rfl rfl (by decide) rfl (Zz rfl rfl (by decide) rfl (Zz rfl rfl (by decide) rfl (Zz rfl rfl (by decide) rfl (Zz rfl rfl (by decide) rfl (W_q (Zx rfl rfl) rfl (W_q (Zb rfl) rfl ?_))))))));clear H a;intro a H
    refine Ze (Za (wp_ret ?_))
    obtain rfl:=Option.some.inj hm
    replace hS:=hS.tk0
    refine Qx H (.inr rfl) rfl rfl ?_
    exact⟨rfl,hS.x⟩
  replace H:=H.know 8 rfl aB
  replace hm:=Zv hm aB
  refine Kq H rfl rfl (n_q H (Zc rfl Zad) rfl (Zy rfl rfl (W_q (Zf rfl ((hS.blk 0 rfl).ld (v:=Value.int .i64 a0.Obj) ag3 (by simp))) rfl (Zy rfl rfl (W_q (Zc rfl Zle) rfl (Zy rfl rfl (W_q (Zf rfl ((hb1.ext hS.x).ld ag30 rfl)) rfl (Zy rfl rfl ?_))))))));clear H a;intro a H
  obtain⟨bK,bL,aD,bG,bH⟩:=SlR.formV (aA.ext (Zi.mono _) hS.x)
  refine n_q H (Qc Tryz.underlying30 rfl aD) rfl (Zy rfl rfl (W_q (Zc rfl Zdq) rfl (Zy rfl rfl (W_q (Zf rfl ((hb2.ext hS.x).ld ag3 rfl)) rfl (Zy rfl rfl (W_q (Zpb rfl rfl) rfl (Zy rfl rfl ?_)))))));clear H a;intro a H
  replace hm:=Zj hm;obtain⟨aU,aH,hm⟩:=hm
  refine Zk H rfl Zj6 (Kc (A:=A) aH) rfl ?_
  clear H;intro bM bN hv;clear a;intro a H;obtain⟨rfl,aI⟩:=hv
  replace hS:=hS.ext aI
  refine Kq H rfl rfl (n_q H (Zb1 rfl) rfl (W_q (Zt rfl rfl) rfl (W_q (Zd rfl) rfl ?_)));clear H a;intro a H
  rcases Bool.eq_false_or_eq_true (!aU) with aC|aC
  · replace H:=H.know 20 rfl aC
    replace hm:=Zu hm aC
    refine Tp H rfl rfl (by decide) rfl (Zz rfl rfl (by decide) rfl (Zz rfl rfl (by decide) rfl (Zz rfl rfl (by decide) rfl (Zz rfl rfl (by decide) rfl (Zz rfl rfl (by decide) rfl (Zz rfl rfl (by decide) rfl (W_q (Zx rfl rfl) rfl (W_q (Zb rfl) rfl ?_))))))));clear H a;intro a H
    refine Ze (Za (wp_ret ?_))
    obtain rfl:=Option.some.inj hm
    replace hS:=hS.tk0
    refine Qx H (.inr rfl) rfl rfl ?_
    exact⟨rfl,hS.x⟩
  replace H:=H.know 20 rfl aC
  replace hm:=Zv hm aC
  refine Kq H rfl rfl (n_q H (Zc rfl Zle) rfl (Zy rfl rfl (W_q (Zf rfl ((hb1.ext hS.x).ld ag30 rfl)) rfl (Zy rfl rfl (W_q (Zc rfl Zad) rfl (Zy rfl rfl (W_q (Zf rfl ((hS.blk 0 rfl).ld (v:=Value.int .i64 a0.Obj) ag3 (by simp))) rfl (Zy rfl rfl ?_))))))));clear H a;intro a H
  replace hm:=Zj hm;obtain⟨bO,aJ,hm⟩:=hm
  obtain⟨h0x31,h1x31,aE⟩:=Ho aJ
  obtain⟨bF,aF⟩:=SlR.adV (aA.ext (Zi.mono _) hS.x) aD aE
  refine n_q H (Zch Tryz.underlying30 sz4 rfl aD aF rfl h0x31 h1x31) rfl (Zy rfl rfl (W_q (Zf rfl (SlR.ldOneV (aA.ext (Zi.mono _) hS.x) aD aF ag4 aE rfl)) rfl (Zy rfl rfl (W_q (Zb1 rfl) rfl (W_q (Zt rfl rfl) rfl (W_q (Zb rfl) rfl ?_))))));clear H a;intro a H
  refine Ze (Za (wp_ret ?_))
  obtain rfl:=Option.some.inj hm
  replace hS:=hS.tk0
  refine Qx H (.inr rfl) rfl rfl ?_
  exact⟨rfl,hS.x⟩
theorem Zc4 {w : World} {A : Nat → Addr} {a0 : GProc} {b1 : Nat} {cs1 : List Value} {a1 : GState} {b2 : Nat} {cs2 : List Value} {a2 : GPlan} (hb1 : Blk w b1 cs1 34) (h1 : Hg w cs1 a1) (hb2 : Blk w b2 cs2 27) (h2 : Xa w cs2 a2) {r : Bool} (hm : Km a0 a1 a2=some r) :
    Calls Tryz.prog 224 [.agg (Xf a0).toArray,.pointer (some ⟨b1,0,none⟩),.pointer (some ⟨b2,0,none⟩)].toArray w (Ret fun u w'=>u=.bool r ∧ Ext w w'):=by
  obtain⟨aW,aX,aY,aZ,a9,bA,bB,rfl,aM,aN,aO,aP,aA,aQ,aR⟩:=h1
  obtain⟨bC,bD,bE,bF,rfl,aS,aT,aU,aG⟩:=h2
  have hS:=St.begin NB w
  unfold Km at hm
  refine enter Tryz.func224 rfl rfl rfl ?_;intro a H;dsimp only [Qn,Nat.zero_add,Nat.reduceAdd] at H
  refine wp_seq (wp_region_lit (Yy H rfl (cs:=(a0.Regs.toList.map (Value.int .u32) ++ [.int .u32 a0.Pc,.int .i64 a0.State,.int .i64 a0.Prio,.int .i64 a0.Wait,.int .i64 a0.Obj])) rfl rfl ?_))
  clear H;intro bL bM hN aH hs;clear a;intro a H
  replace hS:=hS.newBlk hN aH hs;clear hN hs
  refine n_q H (Zb rfl) rfl ?_;clear H a;intro a H
  refine Ze (Za (wp_seq (wp_region_lit (n_q H (Zc rfl Ze4) rfl (W_q (Zf rfl ((hS.blk 0 rfl).ld (v:=Value.int .i64 a0.Wait) ag3 (by simp))) rfl (W_q (Th rfl rfl) rfl (W_q (Zd rfl) rfl ?_)))))));clear H a;intro a H
  rcases Bool.eq_false_or_eq_true (!decide (a0.Wait=3)) with aB|aB
  · replace H:=H.know 8 rfl aB
    replace hm:=Zu hm aB
    refine Tp H rfl rfl (by decide) rfl (Zz rfl rfl (by decide) rfl (Zz rfl rfl (by decide) rfl (Zz rfl rfl (by decide) rfl (Zz rfl rfl (by decide) rfl (Zz rfl rfl (by decide) rfl (Zz rfl rfl (by decide) rfl (Zz rfl rfl (by decide) rfl (Zz rfl rfl (by decide) rfl (Zz rfl rfl (by decide) rfl (Zz rfl rfl (by decide) rfl (W_q (Zx rfl rfl) rfl ?_)))))))))));clear H a;intro a H
    refine n_q H (Zd rfl) rfl (Zz rfl rfl (by decide) rfl (Zz rfl rfl (by decide) rfl (Zz rfl rfl (by decide) rfl (Zz rfl rfl (by decide) rfl (Zz rfl rfl (by decide) rfl (Zz rfl rfl (by decide) rfl (Zz rfl rfl (by decide) rfl (W_q (Zx rfl rfl) rfl (W_q (Zb rfl) rfl ?_)))))))));clear H a;intro a H
    refine Ze (Za (wp_ret ?_))
    obtain rfl:=Option.some.inj hm
    replace hS:=hS.tk0
    refine Qx H (.inr rfl) rfl rfl ?_
    exact⟨rfl,hS.x⟩
  replace H:=H.know 8 rfl aB
  replace hm:=Zv hm aB
  refine Kq H rfl rfl (n_q H (Zc rfl Zad) rfl (Zy rfl rfl (W_q (Zf rfl ((hS.blk 0 rfl).ld (v:=Value.int .i64 a0.Obj) ag3 (by simp))) rfl (Zy rfl rfl (W_q (Zc rfl Zi9) rfl (Zy rfl rfl (W_q (Zf rfl ((hb1.ext hS.x).ld Zil rfl)) rfl (Zy rfl rfl ?_))))))));clear H a;intro a H
  obtain⟨bN,bO,aD,bH,bI⟩:=SlR.formV (aA.ext (Zi.mono _) hS.x)
  refine n_q H (Qc Tryz.underlying25 rfl aD) rfl (Zy rfl rfl (W_q (Zc rfl Zbx) rfl (Zy rfl rfl (W_q (Zf rfl ((hb2.ext hS.x).ld Zil rfl)) rfl (Zy rfl rfl ?_)))));clear H a;intro a H
  obtain⟨bP,bQ,aI,bJ,bK⟩:=SlR.formV (aG.ext (Zi.mono _) hS.x)
  refine n_q H (Qc Tryz.underlying25 rfl aI) rfl (Zy rfl rfl (W_q (Zpb rfl rfl) rfl (Zy rfl rfl ?_)));clear H a;intro a H
  replace hm:=Zj hm;obtain⟨aV,aJ,hm⟩:=hm
  refine Zk H rfl Zj6 (Kc (A:=A) aJ) rfl ?_
  clear H;intro bR bS hv;clear a;intro a H;obtain⟨rfl,aK⟩:=hv
  replace hS:=hS.ext aK
  refine Kq H rfl rfl (n_q H (Zb1 rfl) rfl (W_q (Zt rfl rfl) rfl (W_q (Zd rfl) rfl ?_)));clear H a;intro a H
  rcases Bool.eq_false_or_eq_true (!aV) with aC|aC
  · replace H:=H.know 21 rfl aC
    replace hm:=Zu hm aC
    refine Tp H rfl rfl (by decide) rfl (Zz rfl rfl (by decide) rfl (Zz rfl rfl (by decide) rfl (Zz rfl rfl (by decide) rfl (Zz rfl rfl (by decide) rfl (Zz rfl rfl (by decide) rfl (Zz rfl rfl (by decide) rfl (W_q (Zx rfl rfl) rfl (W_q (Zb rfl) rfl ?_))))))));clear H a;intro a H
    refine Ze (Za (wp_ret ?_))
    obtain rfl:=Option.some.inj hm
    replace hS:=hS.tk0
    refine Qx H (.inr rfl) rfl rfl ?_
    exact⟨rfl,hS.x⟩
  replace H:=H.know 21 rfl aC
  replace hm:=Zv hm aC
  refine Kq H rfl rfl (n_q H (Zc rfl Zi9) rfl (Zy rfl rfl (W_q (Zf rfl ((hb1.ext hS.x).ld Zil rfl)) rfl (Zy rfl rfl (W_q (Zc rfl Zad) rfl (Zy rfl rfl (W_q (Zf rfl ((hS.blk 0 rfl).ld (v:=Value.int .i64 a0.Obj) ag3 (by simp))) rfl (Zy rfl rfl ?_))))))));clear H a;intro a H
  replace hm:=Zj hm;obtain⟨bT,aL,hm⟩:=hm
  obtain⟨h0x32,h1x32,aE⟩:=Ho aL
  obtain⟨bG,aF⟩:=SlR.adV (aA.ext (Zi.mono _) hS.x) aD aE
  refine n_q H (Zch Tryz.underlying25 sz3 rfl aD aF rfl h0x32 h1x32) rfl (Zy rfl rfl (W_q (Zf rfl (SlR.ldOneV (aA.ext (Zi.mono _) hS.x) aD aF ag3 aE rfl)) rfl (Zy rfl rfl (W_q (Jy rfl rfl) rfl (W_q (Zt rfl rfl) rfl (W_q (Zb rfl) rfl ?_))))));clear H a;intro a H
  refine Ze (Za (wp_ret ?_))
  obtain rfl:=Option.some.inj hm
  replace hS:=hS.tk0
  refine Qx H (.inr rfl) rfl rfl ?_
  exact⟨rfl,hS.x⟩
theorem Zde {w : World} {A : Nat → Addr} {cs0 : List Value} {a0 : GValidAsked} {a1 : GProc} (h0 : Qj w cs0 a0) {r : Bool} (hm : Yb a0 a1=some r) :
    Calls Tryz.prog 225 [.agg cs0.toArray,.agg (Xf a1).toArray].toArray w (Ret fun u w'=>u=.bool r ∧ Ext w w'):=by
  obtain⟨bM,bN,bO,bP,bQ,bR,bS,bT,bU,bV,a9,rfl,cV,cW,aH,cX,cY,cZ,c7,c9,dA,aI,cQ⟩:=h0
  have hS:=St.begin NB w
  unfold Yb at hm
  refine enter Tryz.func225 rfl rfl rfl ?_;intro a H;dsimp only [Qn,Nat.zero_add,Nat.reduceAdd] at H
  refine wp_seq (wp_region_lit (Yy H rfl (cs:=[.int .i64 a0.p_.Id,.bool a0.p_.Mobile,bM,bN,bO,.int .i64 a0.p_.Events,bP,.int .i64 a0.s_.Id,.int .i64 a0.s_.Frame,.int .i64 a0.s_.Epoch,bQ,bR,bS,bT,bU,bV,a9]) rfl rfl ?_))
  clear H;intro cK eJ hN cM hs;clear a;intro a H
  replace hS:=hS.newBlk hN cM hs;clear hN hs
  refine Yy H rfl (cs:=(a1.Regs.toList.map (Value.int .u32) ++ [.int .u32 a1.Pc,.int .i64 a1.State,.int .i64 a1.Prio,.int .i64 a1.Wait,.int .i64 a1.Obj])) rfl rfl ?_
  clear H;intro cL eK hN cN hs;clear a;intro a H
  replace hS:=hS.newBlk hN cN hs;clear hN hs
  refine n_q H (Zb rfl) rfl ?_;clear H a;intro a H
  refine Ze (Za (wp_seq ?_))
  replace hm:=Zj hm;obtain⟨eL,hm,b8⟩:=hm
  refine Gm (σ:=Bool) H (fun aY=>[(2,.pointer (some ⟨cK,0,none⟩)),(3,.pointer (some ⟨cL,0,none⟩)),(24,.bool aY)]) (fun aY wl=>(Wa a0 a1) aY=some r ∧ St NB w wl [blkR cK [.int .i64 a0.p_.Id,.bool a0.p_.Mobile,bM,bN,bO,.int .i64 a0.p_.Events,bP,.int .i64 a0.s_.Id,.int .i64 a0.s_.Frame,.int .i64 a0.s_.Epoch,bQ,bR,bS,bT,bU,bV,a9] 219,blkR cL (a1.Regs.toList.map (Value.int .u32) ++ [.int .u32 a1.Pc,.int .i64 a1.State,.int .i64 a1.Prio,.int .i64 a1.Wait,.int .i64 a1.Obj]) 144]) ?_ ?_
  · skip
    refine wp_region_lit (n_q H (Zc rfl Ze4) rfl (W_q (Zf rfl ((hS.blk 0 rfl).ld (v:=Value.int .i64 a1.Wait) ag3 (by simp))) rfl (W_q (Th rfl rfl) rfl (W_q (Zd rfl) rfl ?_))));clear H a;intro a H
    rcases Bool.eq_false_or_eq_true (!decide (a1.Wait=4)) with aJ|aJ
    · replace H:=H.know 10 rfl aJ
      replace hm:=Zu hm aJ
      refine Tp H rfl rfl (by decide) rfl (Zz rfl rfl (by decide) rfl (Zz rfl rfl (by decide) rfl (Zz rfl rfl (by decide) rfl (Zz rfl rfl (by decide) rfl (Zz rfl rfl (by decide) rfl (Zz rfl rfl (by decide) rfl (Zz rfl rfl (by decide) rfl (Zz rfl rfl (by decide) rfl (Zz rfl rfl (by decide) rfl (Zz rfl rfl (by decide) rfl (Zz rfl rfl (by decide) rfl ?_)))))))))));clear H a;intro a H
      refine Tp H rfl rfl (by decide) rfl (W_q (Zx rfl rfl) rfl ?_);clear H a;intro a H
      refine Ze (Za ?_)
      obtain rfl:=Option.some.inj hm;replace hm:=b8;try dsimp only at hm
      replace hS:=hS.pk1
      exact Uy true H ⟨rfl,rfl,rfl,trivial⟩ ⟨hm,hS⟩
    replace H:=H.know 10 rfl aJ
    replace hm:=Zv hm aJ
    refine Kq H rfl rfl (n_q H (Zc rfl Zad) rfl (Zy rfl rfl (W_q (Zf rfl ((hS.blk 0 rfl).ld (v:=Value.int .i64 a1.Obj) ag3 (by simp))) rfl (Zy rfl rfl (W_q (Zc rfl Zaz) rfl (Zy rfl rfl (W_q (Zc rfl Tu) rfl (Zy rfl rfl (W_q (Zf rfl ((hS.blk 1 rfl).ld Zk2 rfl)) rfl (Zy rfl rfl ?_))))))))));clear H a;intro a H
    obtain⟨d9,eA,cG,dJ,dK⟩:=SlR.formV (aH.ext (Zi.mono _) hS.x)
    refine n_q H (Qc Tryz.underlying24 rfl cG) rfl (Zy rfl rfl (W_q (Zc rfl Gj) rfl (Zy rfl rfl (W_q (Xh rfl Zhx) rfl (Zy rfl rfl (W_q (Zf rfl ((hS.blk 1 rfl).ld ag31 rfl)) rfl (Zy rfl rfl ?_)))))));clear H a;intro a H
    obtain⟨eC,eD,cH,dL,dM⟩:=SlR.formV (aI.ext Qe.mono hS.x)
    refine n_q H (Qc Tryz.underlying31 rfl cH) rfl (Zy rfl rfl (W_q (Zpb rfl rfl) rfl (Zy rfl rfl ?_)));clear H a;intro a H
    replace hm:=Zj hm;obtain⟨cO,cI,hm⟩:=hm
    refine Zk H rfl Zj6 (Kc (A:=A) cI) rfl ?_
    clear H;intro eE eG hv;clear a;intro a H;obtain⟨rfl,cJ⟩:=hv
    replace hS:=hS.ext cJ
    refine Kq H rfl rfl (n_q H (Zb1 rfl) rfl (W_q (Zt rfl rfl) rfl ?_));clear H a;intro a H
    refine Ze (Za ?_)
    obtain rfl:=Option.some.inj hm;replace hm:=b8;try dsimp only at hm
    replace hS:=hS.pk1
    exact Uy (!cO) H ⟨rfl,rfl,rfl,trivial⟩ ⟨hm,hS⟩
  clear H hS hm a;intro aY a b9 H hR
  simp only [ent,List.map_cons,List.map_nil] at H;(try dsimp only at hR);obtain⟨hm,hS⟩:=hR;try dsimp only [Wa] at hm
  refine Zn H rfl (fun aZ=>?_) (fun aZ=>?_)
  · replace hm:=Zu hm aZ
    refine wp_seq (wp_region_lit (n_q H (Zb rfl) rfl ?_));clear H a;intro a H
    refine Ze (Za (wp_ret (Zh ?_)))
    obtain rfl:=Option.some.inj hm
    replace hS:=hS.tk0
    refine Qx H (.inr rfl) rfl rfl ?_
    exact⟨rfl,hS.x⟩
  replace hm:=Zv hm aZ
  refine wp_skip (Za ?_)
  replace hm:=Zj hm;obtain⟨eH,hm,bW⟩:=hm
  refine Gm (σ:=GPortPlan × (List ByteArray) × Int × Value × Nat × Nat) H (fun (aF,aK,aL,aM,aN,aO)=>[(5,.pointer (some ⟨aN,0,none⟩)),(6,.pointer (some ⟨aO,0,none⟩))]) (fun (aF,aK,aL,aM,aN,aO) wl=>Vz (aF,aK,aL)=some r ∧ St NB w wl [blkR aN [.int .i64 aF.Kind,.int .i64 aF.Size,.int .i64 aF.Depth,.int .i64 aF.Refresh] 118,blkR aO [aM,.int .i64 aL] 154,pureR (SlR w 1 (Zi eS) aM aK)]) ?_ ?_
  · skip
    refine Tm [] 18 (by kernel_rfl) ?_
    obtain⟨aG,aP⟩ : ∃ x,x=b9.drew:=⟨_,rfl⟩;rw [← aP];have cA : Ext b9 aG:=by rw [aP];exact Ext.drew' _
    clear aP
    replace hS:=hS.ext cA
    have aE:=hS
    have hW:=Nat.le_refl aG.heap.size
    refine Zg 0 H rfl (Zc rfl Zaz) rfl (by kernel_rfl) (by kernel_rfl) (by kernel_rfl) (by kernel_rfl) (fun _ _ _ h=>h) ?_;clear H a;intro a H
    refine Zg 1 H rfl (Zc rfl Tu) rfl (by kernel_rfl) (by kernel_rfl) (by kernel_rfl) (by kernel_rfl) (fun _ _ _ h=>h) ?_;clear H a;intro a H
    refine Qr 2 H rfl (Zf rfl (LdC.old ((aE.blk 0 rfl).ld Zk2 rfl) Ext.rfl' (Nat.le_refl _) (by simp))) rfl (by kernel_rfl) (by kernel_rfl) (by kernel_rfl) (by kernel_rfl) (fun _ _ _ h=>h) ?_;clear H a;intro a H
    refine Zg 3 H rfl (Zc rfl Zad) rfl (by kernel_rfl) (by kernel_rfl) (by kernel_rfl) (by kernel_rfl) (fun _ _ _ h=>h) ?_;clear H a;intro a H
    refine Qr 4 H rfl (Zf rfl (LdC.old ((aE.blk 1 rfl).ld (v:=Value.int .i64 a1.Obj) ag3 (by simp)) Ext.rfl' (Nat.le_refl _) (by simp))) rfl (by kernel_rfl) (by kernel_rfl) (by kernel_rfl) (by kernel_rfl) (fun _ _ _ h=>h) ?_;clear H a;intro a H
    obtain⟨dN,dO,aQ,dB,dC⟩:=SlR.formV (aH.ext (Zi.mono _) hS.x)
    replace hm:=Zj hm;obtain⟨aB,cB,hm⟩:=hm
    obtain⟨h0x1050,h1x1050,aU⟩:=Ho cB
    obtain⟨cR,aV⟩:=SlR.adV (aH.ext (Zi.mono _) hS.x) aQ aU
    refine Zg 5 H rfl (Zch Tryz.underlying24 Gp rfl aQ aV rfl h0x1050 h1x1050) rfl (by kernel_rfl) (by kernel_rfl) (by kernel_rfl) (by kernel_rfl) (fun _ _ _ h=>h) ?_;clear H a;intro a H
    refine Qr 6 H rfl (Zf rfl (LdC.old (SlR.ldAggV (aH.ext (Zi.mono _) aE.x) aQ aV Zdp Gp aU) Ext.rfl' (Nat.le_refl _) (by simp))) rfl (by kernel_rfl) (by kernel_rfl) (by kernel_rfl) (by kernel_rfl) (fun _ _ _ h=>h) ?_;clear H a;intro a H
    refine Zg 7 H rfl (Zc rfl Gj) rfl (by kernel_rfl) (by kernel_rfl) (by kernel_rfl) (by kernel_rfl) (fun _ _ _ h=>h) ?_;clear H a;intro a H
    refine Zg 8 H rfl (Xh rfl Zhx) rfl (by kernel_rfl) (by kernel_rfl) (by kernel_rfl) (by kernel_rfl) (fun _ _ _ h=>h) ?_;clear H a;intro a H
    refine Qr 9 H rfl (Zf rfl (LdC.old ((aE.blk 0 rfl).ld ag31 rfl) Ext.rfl' (Nat.le_refl _) (by simp))) rfl (by kernel_rfl) (by kernel_rfl) (by kernel_rfl) (by kernel_rfl) (fun _ _ _ h=>h) ?_;clear H a;intro a H
    refine Zg 10 H rfl (Zc rfl Zad) rfl (by kernel_rfl) (by kernel_rfl) (by kernel_rfl) (by kernel_rfl) (fun _ _ _ h=>h) ?_;clear H a;intro a H
    refine Qr 11 H rfl (Zf rfl (LdC.old ((aE.blk 1 rfl).ld (v:=Value.int .i64 a1.Obj) ag3 (by simp)) Ext.rfl' (Nat.le_refl _) (by simp))) rfl (by kernel_rfl) (by kernel_rfl) (by kernel_rfl) (by kernel_rfl) (fun _ _ _ h=>h) ?_;clear H a;intro a H
    obtain⟨dP,dQ,aR,dD,dE⟩:=SlR.formV (aI.ext Qe.mono hS.x)
    replace hm:=Zj hm;obtain⟨aC,cC,hm⟩:=hm
    obtain⟨h0x1052,h1x1052,aW⟩:=Ho cC
    obtain⟨cT,aX⟩:=SlR.adV (aI.ext Qe.mono hS.x) aR aW
    obtain⟨cU,cP,⟨aA,rfl,aD⟩,b7⟩:=SlR.elV aI aR aX aW
    refine Zg 12 H rfl (Zch Tryz.underlying31 Zhy rfl aR aX rfl h0x1052 h1x1052) rfl (by kernel_rfl) (by kernel_rfl) (by kernel_rfl) (by kernel_rfl) (fun _ _ _ h=>h) ?_;clear H a;intro a H
    refine Qr 13 H rfl (Zf rfl (LdC.old (LdX.ext (ldEl Zt3 Zhy rfl b7) aE.x) Ext.rfl' (Nat.le_refl _) (by simp))) rfl (by kernel_rfl) (by kernel_rfl) (by kernel_rfl) (by kernel_rfl) (fun _ _ _ h=>h) ?_;clear H a;intro a H
    refine Zfe 14 15 (by kernel_rfl) ?_ ?_
    · skip
      refine Gz 14 H rfl Zgp rfl ?_
      clear H;intro bX dR hN bA hs;clear a;intro a H
      have bB : aG.heap.size ≤ bX:=hs ▸ hW
      replace hS:=hS.newBlk hN bA hs;clear hN hs
      replace hW:=Nat.le_trans hW bA.size
      refine Zb2 15 H rfl Zoo rfl (by kernel_rfl) ?_
      clear H;intro bY dS hN bC hs;clear a;intro a H
      have bD : aG.heap.size ≤ bY:=hs ▸ hW
      replace hS:=hS.newBlk hN bC hs;clear hN hs
      replace hW:=Nat.le_trans hW bC.size
      replace hS:=hS.pk1
      refine Qg 16 H rfl rfl rfl (vs:=[.int .i64 aB.Kind,.int .i64 aB.Size,.int .i64 aB.Depth,.int .i64 aB.Refresh]) rfl Gp (hS.blk 0 rfl) rfl (by simp) (by kernel_rfl) (.inl (fun h=>absurd h (Nat.not_lt.2 bB))) ?_
      clear H;intro dT hN bE hz;clear a;intro a H;replace hS:=hS.setBlk hN bE;clear hN hz;replace hW:=Nat.le_trans hW bE.size
      replace hS:=hS.pk1
      refine Qg 17 H rfl rfl rfl (vs:=[aA,.int .i64 aC.Age]) rfl Zhy (hS.blk 0 rfl) rfl (by simp [((aD.ext (Zi.mono _) hS.x)).one]) (by kernel_rfl) (.inl (fun h=>absurd h (Nat.not_lt.2 bD))) ?_
      clear H;intro dU hN bF hz;clear a;intro a H;replace hS:=hS.setBlk hN bF;clear hN hz;replace hW:=Nat.le_trans hW bF.size
      refine Xc (by kernel_rfl) ?_
      refine Za ?_
      obtain rfl:=Option.some.inj hm;replace hm:=bW;try dsimp only at hm
      replace hS:=hS.mkPure (p:=SlR w 1 (Zi eS) aA aC.Msgs) aD
      replace hS:=hS.pk1
      replace hS:=hS.pk2
      replace hS:=hS.tk3
      exact Uy (aB,aC.Msgs,aC.Age,aA,bX,bY) H ⟨rfl,rfl,trivial⟩ ⟨hm,hS⟩
    refine Gz 15 H rfl Zoo rfl ?_
    clear H;intro bZ dV hN bG hs;clear a;intro a H
    have bH : aG.heap.size ≤ bZ:=hs ▸ hW
    replace hS:=hS.newBlk hN bG hs;clear hN hs
    replace hW:=Nat.le_trans hW bG.size
    refine Zb2 14 H rfl Zgp rfl (by kernel_rfl) ?_
    clear H;intro b6 dW hN bI hs;clear a;intro a H
    have bJ : aG.heap.size ≤ b6:=hs ▸ hW
    replace hS:=hS.newBlk hN bI hs;clear hN hs
    replace hW:=Nat.le_trans hW bI.size
    refine Qg 16 H rfl rfl rfl (vs:=[.int .i64 aB.Kind,.int .i64 aB.Size,.int .i64 aB.Depth,.int .i64 aB.Refresh]) rfl Gp (hS.blk 0 rfl) rfl (by simp) (by kernel_rfl) (.inl (fun h=>absurd h (Nat.not_lt.2 bJ))) ?_
    clear H;intro dX hN bK hz;clear a;intro a H;replace hS:=hS.setBlk hN bK;clear hN hz;replace hW:=Nat.le_trans hW bK.size
    replace hS:=hS.pk1
    refine Qg 17 H rfl rfl rfl (vs:=[aA,.int .i64 aC.Age]) rfl Zhy (hS.blk 0 rfl) rfl (by simp [((aD.ext (Zi.mono _) hS.x)).one]) (by kernel_rfl) (.inl (fun h=>absurd h (Nat.not_lt.2 bH))) ?_
    clear H;intro dY hN bL hz;clear a;intro a H;replace hS:=hS.setBlk hN bL;clear hN hz;replace hW:=Nat.le_trans hW bL.size
    refine Xc (by kernel_rfl) ?_
    refine Za ?_
    obtain rfl:=Option.some.inj hm;replace hm:=bW;try dsimp only at hm
    replace hS:=hS.mkPure (p:=SlR w 1 (Zi eS) aA aC.Msgs) aD
    replace hS:=hS.pk1
    replace hS:=hS.pk2
    replace hS:=hS.tk3
    exact Uy (aB,aC.Msgs,aC.Age,aA,b6,bZ) H ⟨rfl,rfl,trivial⟩ ⟨hm,hS⟩
  clear H hS hm a;intro xx a dZ H hR
  obtain⟨aF,aK,aL,aM,aN,aO⟩:=xx
  simp only [ent,List.map_cons,List.map_nil] at H;(try dsimp only at hR);obtain⟨hm,hS⟩:=hR;try dsimp only [Vz] at hm
  refine wp_seq (wp_seq (wp_region_lit (n_q H (Zc rfl Tt) rfl (W_q (Zf rfl ((hS.blk 0 rfl).ld ag3 rfl)) rfl ?_))));clear H a;intro a H
  refine Ze (Za (wp_block (wp_seq (wp_region_lit (n_q H (Jy rfl rfl) rfl (W_q (Zb rfl) rfl ?_))))));clear H a;intro a H
  refine Ze (Za (Zn H rfl (fun aS=>?_) (fun aS=>?_)))
  · replace hm:=Zu hm aS
    refine wp_seq (wp_region_lit (n_q H (Zc rfl Ze5) rfl (W_q (Zf rfl ((hS.blk 1 rfl).ld Zmx rfl)) rfl ?_)));clear H a;intro a H
    obtain⟨d5,d6,cD,dF,dG⟩:=SlR.formV ((hS.pureAt 2 rfl).ext (Zi.mono _) hS.x)
    refine n_q H (Qc Tryz.underlying152 rfl cD) rfl (W_q (Zgg (i:=aK.length) (j:=0) rfl rfl) rfl (W_q (Zb rfl) rfl ?_));clear H a;intro a H
    refine Ze (Za (wp_ret (Zl (Zh ?_))))
    obtain rfl:=Option.some.inj hm
    replace hS:=hS.tk0
    refine Qx H (.inr rfl) rfl rfl ?_
    exact⟨rfl,hS.x⟩
  replace hm:=Zv hm aS
  refine wp_seq (wp_region_lit (n_q H (Jy rfl rfl) rfl (W_q (Zb rfl) rfl ?_)));clear H a;intro a H
  refine Ze (Za (Zn H rfl (fun aT=>?_) (fun aT=>?_)))
  · replace hm:=Zu hm aT
    refine wp_seq (wp_region_lit (n_q H (Zc rfl Ze5) rfl (W_q (Zf rfl ((hS.blk 1 rfl).ld Zmx rfl)) rfl ?_)));clear H a;intro a H
    obtain⟨d7,d8,cF,dH,dI⟩:=SlR.formV ((hS.pureAt 2 rfl).ext (Zi.mono _) hS.x)
    refine n_q H (Qc Tryz.underlying152 rfl cF) rfl (W_q (Zc rfl Zf5) rfl (W_q (Zf rfl ((hS.blk 0 rfl).ld ag3 rfl)) rfl (W_q (Jy rfl rfl) rfl (W_q (Zb rfl) rfl ?_))));clear H a;intro a H
    refine Ze (Za (wp_ret (Zl (Zh ?_))))
    obtain rfl:=Option.some.inj hm
    replace hS:=hS.tk0
    refine Qx H (.inr rfl) rfl rfl ?_
    exact⟨rfl,hS.x⟩
  replace hm:=Zv hm aT
  refine wp_skip (Zo (Za (wp_seq (wp_region_lit (n_q H (Zb rfl) rfl ?_)))));clear H a;intro a H
  refine Ze (Za (wp_ret ?_))
  obtain rfl:=Option.some.inj hm
  replace hS:=hS.tk0
  refine Qx H (.inr rfl) rfl rfl ?_
  exact⟨rfl,hS.x⟩
theorem Zhz {w : World} {A : Nat → Addr} {a0 : GPortPlan} {r : Bool} (hm : Za8 a0=some r) :
    Calls Tryz.prog 227 [.agg (Zp a0).toArray].toArray w (Ret fun u w'=>u=.bool r ∧ Ext w w'):=by
  have hS:=St.begin NB w
  unfold Za8 at hm
  refine enter Tryz.func227 rfl rfl rfl ?_;intro a H;dsimp only [Qn,Nat.zero_add,Nat.reduceAdd] at H
  refine wp_seq (wp_region_lit (Yy H rfl (cs:=[.int .i64 a0.Kind,.int .i64 a0.Size,.int .i64 a0.Depth,.int .i64 a0.Refresh]) rfl rfl ?_))
  clear H;intro aB aC hN aA hs;clear a;intro a H
  replace hS:=hS.newBlk hN aA hs;clear hN hs
  refine n_q H (Zb rfl) rfl ?_;clear H a;intro a H
  refine Ze (Za (wp_seq (wp_region_lit (n_c H (fun HC=>?_)))));clear H
  refine Zfx HC (Zc rfl Tt) rfl (by kernel_rfl) (V_q (Zf rfl ((hS.blk 0 rfl).ld ag3 rfl)) rfl (by kernel_rfl) (V_q (Jy rfl rfl) rfl (by kernel_rfl) (V_q (Zd rfl) rfl (by kernel_rfl) (V_g (Zc rfl Tt) (by kernel_rfl) (by kernel_rfl) (by kernel_rfl) (V_g (Zf rfl ((hS.blk 0 rfl).ld ag3 rfl)) (by kernel_rfl) (by kernel_rfl) (by kernel_rfl) (V_g (Jy rfl rfl) (by kernel_rfl) (by kernel_rfl) (by kernel_rfl) (Zml (j:=3) rfl rfl rfl (by kernel_rfl) (by kernel_rfl) (V_q (Zb rfl) rfl (by kernel_rfl) ?_))))))));clear HC a;intro a HC
  have H:=HC.has;clear HC
  refine Ze (Za (wp_ret ?_))
  obtain rfl:=Option.some.inj hm
  replace hS:=hS.tk0
  refine Qx H (.inr rfl) rfl rfl ?_
  exact⟨rfl,hS.x⟩
theorem Zc5 {w : World} {A : Nat → Addr} {a0 : GPortPlan} {cs1 : List Value} {a1 : GPort} (h1 : Qe w cs1 a1) {r : Bool} (hm : Kn a0 a1=some r) :
    Calls Tryz.prog 226 [.agg (Zp a0).toArray,.agg cs1.toArray].toArray w (Ret fun u w'=>u=.bool r ∧ Ext w w'):=by
  obtain⟨aC,rfl,aB⟩:=h1
  have hS:=St.begin NB w
  unfold Kn at hm
  refine enter Tryz.func226 rfl rfl rfl ?_;intro a H;dsimp only [Qn,Nat.zero_add,Nat.reduceAdd] at H
  refine wp_seq (wp_region_lit (Yy H rfl (cs:=[.int .i64 a0.Kind,.int .i64 a0.Size,.int .i64 a0.Depth,.int .i64 a0.Refresh]) rfl rfl ?_))
  clear H;intro aL aM hN aD hs;clear a;intro a H
  replace hS:=hS.newBlk hN aD hs;clear hN hs
  refine Yy H rfl (cs:=[aC,.int .i64 a1.Age]) rfl rfl ?_
  clear H;intro aN aO hN aE hs;clear a;intro a H
  replace hS:=hS.newBlk hN aE hs;clear hN hs
  refine n_q H (Zb rfl) rfl ?_;clear H a;intro a H
  refine Ze (Za (wp_seq (wp_region_lit (n_q H (Zf rfl ((hS.blk 1 rfl).ldAll Zdp Gp)) rfl ?_))));clear H a;intro a H
  replace hm:=Zj hm;obtain⟨aI,aF,hm⟩:=hm
  refine Zk H rfl en227 (Zhz (A:=A) aF) rfl ?_
  clear H;intro aP aQ hv;clear a;intro a H;obtain⟨rfl,aG⟩:=hv
  replace hS:=hS.ext aG
  refine n_q H (Zb1 rfl) rfl (W_q (Zd rfl) rfl ?_);clear H a;intro a H
  rcases Bool.eq_false_or_eq_true (!aI) with aA|aA
  · replace H:=H.know 8 rfl aA
    replace hm:=Zu hm aA
    refine Tp H rfl rfl (by decide) rfl (Zz rfl rfl (by decide) rfl (Zz rfl rfl (by decide) rfl (Zz rfl rfl (by decide) rfl (W_q (Zx rfl rfl) rfl (W_q (Zb rfl) rfl ?_)))));clear H a;intro a H
    refine Ze (Za (wp_ret ?_))
    obtain rfl:=Option.some.inj hm
    replace hS:=hS.tk0
    refine Qx H (.inr rfl) rfl rfl ?_
    exact⟨rfl,hS.x⟩
  replace H:=H.know 8 rfl aA
  replace hm:=Zv hm aA
  refine Kq H rfl rfl (n_q H (Zc rfl Ze5) rfl (Zy rfl rfl (W_q (Zf rfl ((hS.blk 0 rfl).ld Zmx rfl)) rfl (Zy rfl rfl ?_))));clear H a;intro a H
  obtain⟨aR,aS,aH,aJ,aK⟩:=SlR.formV (aB.ext (Zi.mono _) hS.x)
  refine n_q H (Qc Tryz.underlying152 rfl aH) rfl (Zy rfl rfl (W_q (Zgg (i:=a1.Msgs.length) (j:=0) rfl rfl) rfl (W_q (Zt rfl rfl) rfl (W_q (Zb rfl) rfl ?_))));clear H a;intro a H
  refine Ze (Za (wp_ret ?_))
  obtain rfl:=Option.some.inj hm
  replace hS:=hS.tk0
  refine Qx H (.inr rfl) rfl rfl ?_
  exact⟨rfl,hS.x⟩
set_option maxHeartbeats 4000000 in
theorem Zdy {w : World} {A : Nat → Addr} {cs0 : List Value} {a0 : GValidAsked} (h0 : Qj w cs0 a0) {r : Vector Bool 17} (hm : Wq a0=some r) :
    Calls Tryz.prog 139 [.agg cs0.toArray].toArray w (Ret fun u w'=>u=.agg (r.toList.map Value.bool).toArray ∧ Ext w w'):=by
  obtain⟨aE,aB,aF,aG,aC,aH,aI,aJ,aD,aK,aA,rfl,aQ,aR,aS,aT,aU,aX,aY,aV,aP,aW,aO⟩:=h0
  have hS:=St.begin NB w
  unfold Wq at hm
  refine enter Tryz.func139 rfl rfl rfl ?_;intro a H;dsimp only [Qn,Nat.zero_add,Nat.reduceAdd] at H
  refine wp_seq (wp_region_lit (Yy H rfl (cs:=[.int .i64 a0.p_.Id,.bool a0.p_.Mobile,aE,aB,aF,.int .i64 a0.p_.Events,aG,.int .i64 a0.s_.Id,.int .i64 a0.s_.Frame,.int .i64 a0.s_.Epoch,aC,aH,aI,aJ,aD,aK,aA]) rfl rfl ?_))
  clear H;intro bA iJ hN eT hs;clear a;intro a H
  replace hS:=hS.newBlk hN eT hs;clear hN hs
  refine Jb H ze217 rfl ?_
  clear H;intro bB eR hN eU hs;clear a;intro a H
  replace hS:=hS.newBlk hN eU hs;clear hN hs
  refine Ze (Za ?_)
  replace hm:=Zj hm;obtain⟨iK,hm,dH⟩:=hm
  refine Gm (σ:=Nat × Nat) H (fun (aM,aL)=>[(1,.pointer (some ⟨bA,0,none⟩)),(2,.pointer (some ⟨bB,0,none⟩)),(3,.pointer (some ⟨aM,0,none⟩)),(4,.pointer (some ⟨aL,0,none⟩))]) (fun (aM,aL) wl=>(Wx a0) ()=some r ∧ St NB w wl [blkR bA [.int .i64 a0.p_.Id,.bool a0.p_.Mobile,aE,aB,aF,.int .i64 a0.p_.Events,aG,.int .i64 a0.s_.Id,.int .i64 a0.s_.Frame,.int .i64 a0.s_.Epoch,aC,aH,aI,aJ,aD,aK,aA] 219,blkR bB ((Vector.replicate 17 false).toList.map Value.bool) 217,blkR aM [.int .i64 a0.p_.Id,.bool a0.p_.Mobile,aE,aB,aF,.int .i64 a0.p_.Events,aG] 27,blkR aL [.int .i64 a0.s_.Id,.int .i64 a0.s_.Frame,.int .i64 a0.s_.Epoch,aC,aH,aI,aJ,aD,aK,aA] 34]) ?_ ?_
  · skip
    refine Tm [] 8 (by kernel_rfl) ?_
    obtain⟨bK,bO⟩ : ∃ x,x=eR.drew:=⟨_,rfl⟩;rw [← bO];have dN : Ext eR bK:=by rw [bO];exact Ext.drew' _
    clear bO
    replace hS:=hS.ext dN
    have cJ:=hS
    have hW:=Nat.le_refl bK.heap.size
    refine Zg 0 H rfl (Zc rfl Zaz) rfl (by kernel_rfl) (by kernel_rfl) (by kernel_rfl) (by kernel_rfl) (fun _ _ _ h=>h) ?_;clear H a;intro a H
    refine Qr 1 H rfl (Zf rfl (LdC.old ((cJ.blk 1 rfl).ldPart 0 7 Zda Zav (by simp)) Ext.rfl' (Nat.le_refl _) (by simp))) rfl (by kernel_rfl) (by kernel_rfl) (by kernel_rfl) (by kernel_rfl) (fun _ _ _ h=>h) ?_;clear H a;intro a H
    refine Zg 2 H rfl (Zc rfl Gj) rfl (by kernel_rfl) (by kernel_rfl) (by kernel_rfl) (by kernel_rfl) (fun _ _ _ h=>h) ?_;clear H a;intro a H
    refine Qr 3 H rfl (Zf rfl (LdC.old ((cJ.blk 1 rfl).ldPart 7 10 Zo1 Zbz (by simp)) Ext.rfl' (Nat.le_refl _) (by simp))) rfl (by kernel_rfl) (by kernel_rfl) (by kernel_rfl) (by kernel_rfl) (fun _ _ _ h=>h) ?_;clear H a;intro a H
    refine Zfe 4 5 (by kernel_rfl) ?_ ?_
    · skip
      refine Gz 4 H rfl Zms rfl ?_
      clear H;intro dI fQ hN cK hs;clear a;intro a H
      have bT : bK.heap.size ≤ dI:=hs ▸ hW
      replace hS:=hS.newBlk hN cK hs;clear hN hs
      replace hW:=Nat.le_trans hW cK.size
      refine Zb2 5 H rfl Zbp rfl (by kernel_rfl) ?_
      clear H;intro dJ fR hN cL hs;clear a;intro a H
      have bU : bK.heap.size ≤ dJ:=hs ▸ hW
      replace hS:=hS.newBlk hN cL hs;clear hN hs
      replace hW:=Nat.le_trans hW cL.size
      replace hS:=hS.pk1
      refine Qg 6 H rfl rfl rfl (vs:=[.int .i64 a0.p_.Id,.bool a0.p_.Mobile,aE,aB,aF,.int .i64 a0.p_.Events,aG]) rfl Zav (hS.blk 0 rfl) rfl (by simp [((aQ.ext (Zi.mono _) hS.x)).one,((aR.ext (Zi.mono _) hS.x)).one,((aS.ext (Zi.mono _) hS.x)).one,((aT.ext (Zi.mono _) hS.x)).one]) (by kernel_rfl) (.inl (fun h=>absurd h (Nat.not_lt.2 bT))) ?_
      clear H;intro fS hN cM hz;clear a;intro a H;replace hS:=hS.setBlk hN cM;clear hN hz;replace hW:=Nat.le_trans hW cM.size
      replace hS:=hS.pk1
      refine Qg 7 H rfl rfl rfl (vs:=[.int .i64 a0.s_.Id,.int .i64 a0.s_.Frame,.int .i64 a0.s_.Epoch,aC,aH,aI,aJ,aD,aK,aA]) rfl Zbz (hS.blk 0 rfl) rfl (by simp [((aU.ext (Zi.mono _) hS.x)).one,((aX.ext (Zi.mono _) hS.x)).one,((aY.ext (Zi.mono _) hS.x)).one,((aV.ext (Zi.mono _) hS.x)).one,((aP.ext (Zi.mono _) hS.x)).one,((aW.ext Qe.mono hS.x)).one,((aO.ext (Zi.mono _) hS.x)).one]) (by kernel_rfl) (.inl (fun h=>absurd h (Nat.not_lt.2 bU))) ?_
      clear H;intro fT hN cN hz;clear a;intro a H;replace hS:=hS.setBlk hN cN;clear hN hz;replace hW:=Nat.le_trans hW cN.size
      refine Xc (by kernel_rfl) ?_
      refine Za ?_
      obtain rfl:=Option.some.inj hm;replace hm:=dH;try dsimp only at hm
      replace hS:=hS.pk1
      replace hS:=hS.pk2
      replace hS:=hS.pk3
      exact Uy (dI,dJ) H ⟨rfl,rfl,rfl,rfl,trivial⟩ ⟨hm,hS⟩
    refine Gz 5 H rfl Zbp rfl ?_
    clear H;intro dK fU hN cO hs;clear a;intro a H
    have bV : bK.heap.size ≤ dK:=hs ▸ hW
    replace hS:=hS.newBlk hN cO hs;clear hN hs
    replace hW:=Nat.le_trans hW cO.size
    refine Zb2 4 H rfl Zms rfl (by kernel_rfl) ?_
    clear H;intro dL fV hN cP hs;clear a;intro a H
    have bW : bK.heap.size ≤ dL:=hs ▸ hW
    replace hS:=hS.newBlk hN cP hs;clear hN hs
    replace hW:=Nat.le_trans hW cP.size
    refine Qg 6 H rfl rfl rfl (vs:=[.int .i64 a0.p_.Id,.bool a0.p_.Mobile,aE,aB,aF,.int .i64 a0.p_.Events,aG]) rfl Zav (hS.blk 0 rfl) rfl (by simp [((aQ.ext (Zi.mono _) hS.x)).one,((aR.ext (Zi.mono _) hS.x)).one,((aS.ext (Zi.mono _) hS.x)).one,((aT.ext (Zi.mono _) hS.x)).one]) (by kernel_rfl) (.inl (fun h=>absurd h (Nat.not_lt.2 bW))) ?_
    clear H;intro fW hN cQ hz;clear a;intro a H;replace hS:=hS.setBlk hN cQ;clear hN hz;replace hW:=Nat.le_trans hW cQ.size
    replace hS:=hS.pk1
    refine Qg 7 H rfl rfl rfl (vs:=[.int .i64 a0.s_.Id,.int .i64 a0.s_.Frame,.int .i64 a0.s_.Epoch,aC,aH,aI,aJ,aD,aK,aA]) rfl Zbz (hS.blk 0 rfl) rfl (by simp [((aU.ext (Zi.mono _) hS.x)).one,((aX.ext (Zi.mono _) hS.x)).one,((aY.ext (Zi.mono _) hS.x)).one,((aV.ext (Zi.mono _) hS.x)).one,((aP.ext (Zi.mono _) hS.x)).one,((aW.ext Qe.mono hS.x)).one,((aO.ext (Zi.mono _) hS.x)).one]) (by kernel_rfl) (.inl (fun h=>absurd h (Nat.not_lt.2 bV))) ?_
    clear H;intro fX hN cR hz;clear a;intro a H;replace hS:=hS.setBlk hN cR;clear hN hz;replace hW:=Nat.le_trans hW cR.size
    refine Xc (by kernel_rfl) ?_
    refine Za ?_
    obtain rfl:=Option.some.inj hm;replace hm:=dH;try dsimp only at hm
    replace hS:=hS.pk1
    replace hS:=hS.pk2
    replace hS:=hS.pk3
    exact Uy (dL,dK) H ⟨rfl,rfl,rfl,rfl,trivial⟩ ⟨hm,hS⟩
  clear H hS hm a;intro xx a dM H hR
  obtain⟨aM,aL⟩:=xx
  simp only [ent,List.map_cons,List.map_nil] at H;(try dsimp only at hR);obtain⟨hm,hS⟩:=hR;try dsimp only [Wx] at hm
  refine wp_seq (Tm [] 92 (by kernel_rfl) ?_)
  obtain⟨bE,bP⟩ : ∃ x,x=dM.drew:=⟨_,rfl⟩;rw [← bP];have dO : Ext dM bE:=by rw [bP];exact Ext.drew' _
  clear bP
  replace hS:=hS.ext dO
  have aN:=hS
  have hW:=Nat.le_refl bE.heap.size
  refine Zg 0 H rfl (Zc rfl Zs2) rfl (by as_aux_lemma=>kernel_rfl) (by as_aux_lemma=>kernel_rfl) (by as_aux_lemma=>kernel_rfl) (by as_aux_lemma=>kernel_rfl) (fun _ _ _ h=>h) ?_;clear H a;intro a H
  refine Qr 1 H rfl (Zf rfl (LdC.old ((aN.blk 3 rfl).ld ag3 rfl) Ext.rfl' (Nat.le_refl _) (by simp))) rfl (by as_aux_lemma=>kernel_rfl) (by as_aux_lemma=>kernel_rfl) (by as_aux_lemma=>kernel_rfl) (by as_aux_lemma=>kernel_rfl) (fun _ _ _ h=>h) ?_;clear H a;intro a H
  refine Zg 2 H rfl (Zc rfl Zfg) rfl (by as_aux_lemma=>kernel_rfl) (by as_aux_lemma=>kernel_rfl) (by as_aux_lemma=>kernel_rfl) (by as_aux_lemma=>kernel_rfl) (fun _ _ _ h=>h) ?_;clear H a;intro a H
  refine Qr 3 H rfl (Zf rfl (LdC.old ((aN.blk 2 rfl).ld ag3 rfl) Ext.rfl' (Nat.le_refl _) (by simp))) rfl (by as_aux_lemma=>kernel_rfl) (by as_aux_lemma=>kernel_rfl) (by as_aux_lemma=>kernel_rfl) (by as_aux_lemma=>kernel_rfl) (fun _ _ _ h=>h) ?_;clear H a;intro a H
  refine Zg 4 H rfl (Jy rfl rfl) rfl (by as_aux_lemma=>kernel_rfl) (by as_aux_lemma=>kernel_rfl) (by as_aux_lemma=>kernel_rfl) (by as_aux_lemma=>kernel_rfl) (fun _ _ _ h=>h) ?_;clear H a;intro a H
  refine Zg 5 H rfl (Zc rfl Zs3) rfl (by as_aux_lemma=>kernel_rfl) (by as_aux_lemma=>kernel_rfl) (by as_aux_lemma=>kernel_rfl) (by as_aux_lemma=>kernel_rfl) (fun _ _ _ h=>h) ?_;clear H a;intro a H
  refine Qr 6 H rfl (Zf rfl (LdC.old ((aN.blk 3 rfl).ld ag3 rfl) Ext.rfl' (Nat.le_refl _) (by simp))) rfl (by as_aux_lemma=>kernel_rfl) (by as_aux_lemma=>kernel_rfl) (by as_aux_lemma=>kernel_rfl) (by as_aux_lemma=>kernel_rfl) (fun _ _ _ h=>h) ?_;clear H a;intro a H
  refine Zg 13 H rfl (Zc rfl Zaq) rfl (by as_aux_lemma=>kernel_rfl) (by as_aux_lemma=>kernel_rfl) (by as_aux_lemma=>kernel_rfl) (by as_aux_lemma=>kernel_rfl) (fun _ _ _ h=>h) ?_;clear H a;intro a H
  refine Qr 14 H rfl (Zf rfl (LdC.old ((aN.blk 3 rfl).ld Zmt rfl) Ext.rfl' (Nat.le_refl _) (by simp))) rfl (by as_aux_lemma=>kernel_rfl) (by as_aux_lemma=>kernel_rfl) (by as_aux_lemma=>kernel_rfl) (by as_aux_lemma=>kernel_rfl) (fun _ _ _ h=>h) ?_;clear H a;intro a H
  obtain⟨fY,fZ,dP,e7,e8⟩:=SlR.formV (aU.ext (Zi.mono _) hS.x)
  refine Zg 15 H rfl (Qc Tryz.underlying28 rfl dP) rfl (by as_aux_lemma=>kernel_rfl) (by as_aux_lemma=>kernel_rfl) (by as_aux_lemma=>kernel_rfl) (by as_aux_lemma=>kernel_rfl) (fun _ _ _ h=>h) ?_;clear H a;intro a H
  refine Zg 16 H rfl (Zc rfl Zbn) rfl (by as_aux_lemma=>kernel_rfl) (by as_aux_lemma=>kernel_rfl) (by as_aux_lemma=>kernel_rfl) (by as_aux_lemma=>kernel_rfl) (fun _ _ _ h=>h) ?_;clear H a;intro a H
  refine Qr 17 H rfl (Zf rfl (LdC.old ((aN.blk 2 rfl).ld Zom rfl) Ext.rfl' (Nat.le_refl _) (by simp))) rfl (by as_aux_lemma=>kernel_rfl) (by as_aux_lemma=>kernel_rfl) (by as_aux_lemma=>kernel_rfl) (by as_aux_lemma=>kernel_rfl) (fun _ _ _ h=>h) ?_;clear H a;intro a H
  obtain⟨f3,f5,dQ,e9,fA⟩:=SlR.formV (aR.ext (Zi.mono _) hS.x)
  refine Zg 18 H rfl (Qc Tryz.underlying23 rfl dQ) rfl (by as_aux_lemma=>kernel_rfl) (by as_aux_lemma=>kernel_rfl) (by as_aux_lemma=>kernel_rfl) (by as_aux_lemma=>kernel_rfl) (fun _ _ _ h=>h) ?_;clear H a;intro a H
  refine Zg 19 H rfl (Zgg (i:=a0.s_.Procs.length) (j:=a0.p_.Procs.length) rfl rfl) rfl (by as_aux_lemma=>kernel_rfl) (by as_aux_lemma=>kernel_rfl) (by as_aux_lemma=>kernel_rfl) (by as_aux_lemma=>kernel_rfl) (fun _ _ _ h=>h) ?_;clear H a;intro a H
  refine Qr 55 H rfl (Zf rfl (LdC.old ((aN.blk 0 rfl).ldAll Ze3 Ze6) Ext.rfl' (Nat.le_refl _) (by simp))) rfl (by as_aux_lemma=>kernel_rfl) (by as_aux_lemma=>kernel_rfl) (by as_aux_lemma=>kernel_rfl) (by as_aux_lemma=>kernel_rfl) (fun _ _ _ h=>h) ?_;clear H a;intro a H
  refine Qr 57 H rfl (Zf rfl (LdC.old ((aN.blk 0 rfl).ldAll Ze3 Ze6) Ext.rfl' (Nat.le_refl _) (by simp))) rfl (by as_aux_lemma=>kernel_rfl) (by as_aux_lemma=>kernel_rfl) (by as_aux_lemma=>kernel_rfl) (by as_aux_lemma=>kernel_rfl) (fun _ _ _ h=>h) ?_;clear H a;intro a H
  refine Qr 59 H rfl (Zf rfl (LdC.old ((aN.blk 0 rfl).ldAll Ze3 Ze6) Ext.rfl' (Nat.le_refl _) (by simp))) rfl (by as_aux_lemma=>kernel_rfl) (by as_aux_lemma=>kernel_rfl) (by as_aux_lemma=>kernel_rfl) (by as_aux_lemma=>kernel_rfl) (fun _ _ _ h=>h) ?_;clear H a;intro a H
  refine Qr 60 H rfl (Zf rfl (LdC.old ((aN.blk 0 rfl).ldAll Ze3 Ze6) Ext.rfl' (Nat.le_refl _) (by simp))) rfl (by as_aux_lemma=>kernel_rfl) (by as_aux_lemma=>kernel_rfl) (by as_aux_lemma=>kernel_rfl) (by as_aux_lemma=>kernel_rfl) (fun _ _ _ h=>h) ?_;clear H a;intro a H
  refine Zg 61 H rfl (Gr (f:=[.agg #[.int .i64 a0.p_.Id,.bool a0.p_.Mobile,aE,aB,aF,.int .i64 a0.p_.Events,aG,.int .i64 a0.s_.Id,.int .i64 a0.s_.Frame,.int .i64 a0.s_.Epoch,aC,aH,aI,aJ,aD,aK,aA]]) (c:=[]) rfl rfl) rfl (by as_aux_lemma=>kernel_rfl) (by as_aux_lemma=>kernel_rfl) (by as_aux_lemma=>kernel_rfl) (by as_aux_lemma=>kernel_rfl) (fun _ _ _ h=>h) ?_;clear H a;intro a H
  refine Qr 63 H rfl (Zf rfl (LdC.old ((aN.blk 0 rfl).ldAll Ze3 Ze6) Ext.rfl' (Nat.le_refl _) (by simp))) rfl (by as_aux_lemma=>kernel_rfl) (by as_aux_lemma=>kernel_rfl) (by as_aux_lemma=>kernel_rfl) (by as_aux_lemma=>kernel_rfl) (fun _ _ _ h=>h) ?_;clear H a;intro a H
  refine Qr 65 H rfl (Zf rfl (LdC.old ((aN.blk 0 rfl).ldAll Ze3 Ze6) Ext.rfl' (Nat.le_refl _) (by simp))) rfl (by as_aux_lemma=>kernel_rfl) (by as_aux_lemma=>kernel_rfl) (by as_aux_lemma=>kernel_rfl) (by as_aux_lemma=>kernel_rfl) (fun _ _ _ h=>h) ?_;clear H a;intro a H
  refine Qr 67 H rfl (Zf rfl (LdC.old ((aN.blk 0 rfl).ldAll Ze3 Ze6) Ext.rfl' (Nat.le_refl _) (by simp))) rfl (by as_aux_lemma=>kernel_rfl) (by as_aux_lemma=>kernel_rfl) (by as_aux_lemma=>kernel_rfl) (by as_aux_lemma=>kernel_rfl) (fun _ _ _ h=>h) ?_;clear H a;intro a H
  refine Zg 69 H rfl (Zc rfl Zi9) rfl (by as_aux_lemma=>kernel_rfl) (by as_aux_lemma=>kernel_rfl) (by as_aux_lemma=>kernel_rfl) (by as_aux_lemma=>kernel_rfl) (fun _ _ _ h=>h) ?_;clear H a;intro a H
  refine Qr 70 H rfl (Zf rfl (LdC.old ((aN.blk 3 rfl).ld Zil rfl) Ext.rfl' (Nat.le_refl _) (by simp))) rfl (by as_aux_lemma=>kernel_rfl) (by as_aux_lemma=>kernel_rfl) (by as_aux_lemma=>kernel_rfl) (by as_aux_lemma=>kernel_rfl) (fun _ _ _ h=>h) ?_;clear H a;intro a H
  refine Qr 73 H rfl (Zf rfl (LdC.old ((aN.blk 0 rfl).ldAll Ze3 Ze6) Ext.rfl' (Nat.le_refl _) (by simp))) rfl (by as_aux_lemma=>kernel_rfl) (by as_aux_lemma=>kernel_rfl) (by as_aux_lemma=>kernel_rfl) (by as_aux_lemma=>kernel_rfl) (fun _ _ _ h=>h) ?_;clear H a;intro a H
  refine Qr 75 H rfl (Zf rfl (LdC.old ((aN.blk 0 rfl).ldAll Ze3 Ze6) Ext.rfl' (Nat.le_refl _) (by simp))) rfl (by as_aux_lemma=>kernel_rfl) (by as_aux_lemma=>kernel_rfl) (by as_aux_lemma=>kernel_rfl) (by as_aux_lemma=>kernel_rfl) (fun _ _ _ h=>h) ?_;clear H a;intro a H
  refine Qr 77 H rfl (Zf rfl (LdC.old ((aN.blk 0 rfl).ldAll Ze3 Ze6) Ext.rfl' (Nat.le_refl _) (by simp))) rfl (by as_aux_lemma=>kernel_rfl) (by as_aux_lemma=>kernel_rfl) (by as_aux_lemma=>kernel_rfl) (by as_aux_lemma=>kernel_rfl) (fun _ _ _ h=>h) ?_;clear H a;intro a H
  refine Qr 79 H rfl (Zf rfl (LdC.old ((aN.blk 0 rfl).ldAll Ze3 Ze6) Ext.rfl' (Nat.le_refl _) (by simp))) rfl (by as_aux_lemma=>kernel_rfl) (by as_aux_lemma=>kernel_rfl) (by as_aux_lemma=>kernel_rfl) (by as_aux_lemma=>kernel_rfl) (fun _ _ _ h=>h) ?_;clear H a;intro a H
  refine Zg 80 H rfl (Gr (f:=[]) (c:=[.pointer (some ⟨aL,0,none⟩),.pointer (some ⟨aM,0,none⟩)]) rfl rfl) rfl (by as_aux_lemma=>kernel_rfl) (by as_aux_lemma=>kernel_rfl) (by as_aux_lemma=>kernel_rfl) (by as_aux_lemma=>kernel_rfl) (fun _ _ _ h=>h) ?_;clear H a;intro a H
  refine Qr 82 H rfl (Zf rfl (LdC.old ((aN.blk 0 rfl).ldAll Ze3 Ze6) Ext.rfl' (Nat.le_refl _) (by simp))) rfl (by as_aux_lemma=>kernel_rfl) (by as_aux_lemma=>kernel_rfl) (by as_aux_lemma=>kernel_rfl) (by as_aux_lemma=>kernel_rfl) (fun _ _ _ h=>h) ?_;clear H a;intro a H
  refine Zg 83 H rfl (Gr (f:=[]) (c:=[.pointer (some ⟨aL,0,none⟩),.pointer (some ⟨aM,0,none⟩)]) rfl rfl) rfl (by as_aux_lemma=>kernel_rfl) (by as_aux_lemma=>kernel_rfl) (by as_aux_lemma=>kernel_rfl) (by as_aux_lemma=>kernel_rfl) (fun _ _ _ h=>h) ?_;clear H a;intro a H
  refine Qr 85 H rfl (Zf rfl (LdC.old ((aN.blk 0 rfl).ldAll Ze3 Ze6) Ext.rfl' (Nat.le_refl _) (by simp))) rfl (by as_aux_lemma=>kernel_rfl) (by as_aux_lemma=>kernel_rfl) (by as_aux_lemma=>kernel_rfl) (by as_aux_lemma=>kernel_rfl) (fun _ _ _ h=>h) ?_;clear H a;intro a H
  refine Qr 86 H rfl (Zf rfl (LdC.old ((aN.blk 0 rfl).ldAll Ze3 Ze6) Ext.rfl' (Nat.le_refl _) (by simp))) rfl (by as_aux_lemma=>kernel_rfl) (by as_aux_lemma=>kernel_rfl) (by as_aux_lemma=>kernel_rfl) (by as_aux_lemma=>kernel_rfl) (fun _ _ _ h=>h) ?_;clear H a;intro a H
  refine Zg 87 H rfl (Gr (f:=[.agg #[.int .i64 a0.p_.Id,.bool a0.p_.Mobile,aE,aB,aF,.int .i64 a0.p_.Events,aG,.int .i64 a0.s_.Id,.int .i64 a0.s_.Frame,.int .i64 a0.s_.Epoch,aC,aH,aI,aJ,aD,aK,aA]]) (c:=[]) rfl rfl) rfl (by as_aux_lemma=>kernel_rfl) (by as_aux_lemma=>kernel_rfl) (by as_aux_lemma=>kernel_rfl) (by as_aux_lemma=>kernel_rfl) (fun _ _ _ h=>h) ?_;clear H a;intro a H
  refine Qr 89 H rfl (Zf rfl (LdC.old ((aN.blk 0 rfl).ldAll Ze3 Ze6) Ext.rfl' (Nat.le_refl _) (by simp))) rfl (by as_aux_lemma=>kernel_rfl) (by as_aux_lemma=>kernel_rfl) (by as_aux_lemma=>kernel_rfl) (by as_aux_lemma=>kernel_rfl) (fun _ _ _ h=>h) ?_;clear H a;intro a H
  replace hm:=Zj hm;obtain⟨bL,dR,hm⟩:=hm
  refine Qy 7 (by as_aux_lemma=>kernel_rfl) ?_
  refine Xg 7 H rfl rfl Zlc (Ko (A:=A) dR) rfl (fun v w hv=>.inl (ChgF.of_ext (by obtain⟨_,hE0⟩:=hv;exact hE0))) ?_
  clear H;intro f6 eV hv;clear a;intro a H;obtain⟨rfl,aZ⟩:=hv
  replace hS:=hS.ext aZ
  replace hW:=Nat.le_trans hW aZ.size
  refine Zg 8 H rfl (Zd rfl) rfl (by as_aux_lemma=>kernel_rfl) (by as_aux_lemma=>kernel_rfl) (by as_aux_lemma=>kernel_rfl) (by as_aux_lemma=>kernel_rfl) (fun _ _ _ h=>h) ?_;clear H a;intro a H
  replace hm:=Zj hm;obtain⟨bC,hm,dS⟩:=hm
  refine Zpu H 52 9 10 11 12 [(1,.pointer (some ⟨bA,0,none⟩)),(2,.pointer (some ⟨bB,0,none⟩)),(3,.pointer (some ⟨aM,0,none⟩)),(4,.pointer (some ⟨aL,0,none⟩)),(9,.pointer (some ⟨aL,0,none⟩)),(10,.int .i64 a0.s_.Id),(11,.pointer (some ⟨aM,0,none⟩)),(12,.int .i64 a0.p_.Id),(13,.bool (decide (a0.s_.Id=a0.p_.Id))),(14,.pointer (some ⟨aL,1,none⟩)),(15,.int .i64 a0.s_.Frame),(16,.bool bL),(21,.bool bC),(22,.pointer (some ⟨aL,3,none⟩)),(23,aC),(24,.int .i64 ((a0.s_.Procs.length : Nat) : Int)),(25,.pointer (some ⟨aM,3,none⟩)),(26,aB),(27,.int .i64 ((a0.p_.Procs.length : Nat) : Int)),(28,.bool (decide (a0.s_.Procs.length=a0.p_.Procs.length))),(64,.agg #[.int .i64 a0.p_.Id,.bool a0.p_.Mobile,aE,aB,aF,.int .i64 a0.p_.Events,aG,.int .i64 a0.s_.Id,.int .i64 a0.s_.Frame,.int .i64 a0.s_.Epoch,aC,aH,aI,aJ,aD,aK,aA]),(66,.agg #[.int .i64 a0.p_.Id,.bool a0.p_.Mobile,aE,aB,aF,.int .i64 a0.p_.Events,aG,.int .i64 a0.s_.Id,.int .i64 a0.s_.Frame,.int .i64 a0.s_.Epoch,aC,aH,aI,aJ,aD,aK,aA]),(68,.agg #[.int .i64 a0.p_.Id,.bool a0.p_.Mobile,aE,aB,aF,.int .i64 a0.p_.Events,aG,.int .i64 a0.s_.Id,.int .i64 a0.s_.Frame,.int .i64 a0.s_.Epoch,aC,aH,aI,aJ,aD,aK,aA]),(69,.agg #[.int .i64 a0.p_.Id,.bool a0.p_.Mobile,aE,aB,aF,.int .i64 a0.p_.Events,aG,.int .i64 a0.s_.Id,.int .i64 a0.s_.Frame,.int .i64 a0.s_.Epoch,aC,aH,aI,aJ,aD,aK,aA]),(70,.func (.func 210) [.agg #[.int .i64 a0.p_.Id,.bool a0.p_.Mobile,aE,aB,aF,.int .i64 a0.p_.Events,aG,.int .i64 a0.s_.Id,.int .i64 a0.s_.Frame,.int .i64 a0.s_.Epoch,aC,aH,aI,aJ,aD,aK,aA]].toArray [].toArray),(72,.agg #[.int .i64 a0.p_.Id,.bool a0.p_.Mobile,aE,aB,aF,.int .i64 a0.p_.Events,aG,.int .i64 a0.s_.Id,.int .i64 a0.s_.Frame,.int .i64 a0.s_.Epoch,aC,aH,aI,aJ,aD,aK,aA]),(74,.agg #[.int .i64 a0.p_.Id,.bool a0.p_.Mobile,aE,aB,aF,.int .i64 a0.p_.Events,aG,.int .i64 a0.s_.Id,.int .i64 a0.s_.Frame,.int .i64 a0.s_.Epoch,aC,aH,aI,aJ,aD,aK,aA]),(76,.agg #[.int .i64 a0.p_.Id,.bool a0.p_.Mobile,aE,aB,aF,.int .i64 a0.p_.Events,aG,.int .i64 a0.s_.Id,.int .i64 a0.s_.Frame,.int .i64 a0.s_.Epoch,aC,aH,aI,aJ,aD,aK,aA]),(78,.pointer (some ⟨aL,7,none⟩)),(79,aD),(82,.agg #[.int .i64 a0.p_.Id,.bool a0.p_.Mobile,aE,aB,aF,.int .i64 a0.p_.Events,aG,.int .i64 a0.s_.Id,.int .i64 a0.s_.Frame,.int .i64 a0.s_.Epoch,aC,aH,aI,aJ,aD,aK,aA]),(84,.agg #[.int .i64 a0.p_.Id,.bool a0.p_.Mobile,aE,aB,aF,.int .i64 a0.p_.Events,aG,.int .i64 a0.s_.Id,.int .i64 a0.s_.Frame,.int .i64 a0.s_.Epoch,aC,aH,aI,aJ,aD,aK,aA]),(86,.agg #[.int .i64 a0.p_.Id,.bool a0.p_.Mobile,aE,aB,aF,.int .i64 a0.p_.Events,aG,.int .i64 a0.s_.Id,.int .i64 a0.s_.Frame,.int .i64 a0.s_.Epoch,aC,aH,aI,aJ,aD,aK,aA]),(88,.agg #[.int .i64 a0.p_.Id,.bool a0.p_.Mobile,aE,aB,aF,.int .i64 a0.p_.Events,aG,.int .i64 a0.s_.Id,.int .i64 a0.s_.Frame,.int .i64 a0.s_.Epoch,aC,aH,aI,aJ,aD,aK,aA]),(89,.func (.func 222) [].toArray [.pointer (some ⟨aL,0,none⟩),.pointer (some ⟨aM,0,none⟩)].toArray),(91,.agg #[.int .i64 a0.p_.Id,.bool a0.p_.Mobile,aE,aB,aF,.int .i64 a0.p_.Events,aG,.int .i64 a0.s_.Id,.int .i64 a0.s_.Frame,.int .i64 a0.s_.Epoch,aC,aH,aI,aJ,aD,aK,aA]),(92,.func (.func 224) [].toArray [.pointer (some ⟨aL,0,none⟩),.pointer (some ⟨aM,0,none⟩)].toArray),(94,.agg #[.int .i64 a0.p_.Id,.bool a0.p_.Mobile,aE,aB,aF,.int .i64 a0.p_.Events,aG,.int .i64 a0.s_.Id,.int .i64 a0.s_.Frame,.int .i64 a0.s_.Epoch,aC,aH,aI,aJ,aD,aK,aA]),(95,.agg #[.int .i64 a0.p_.Id,.bool a0.p_.Mobile,aE,aB,aF,.int .i64 a0.p_.Events,aG,.int .i64 a0.s_.Id,.int .i64 a0.s_.Frame,.int .i64 a0.s_.Epoch,aC,aH,aI,aJ,aD,aK,aA]),(96,.func (.func 225) [.agg #[.int .i64 a0.p_.Id,.bool a0.p_.Mobile,aE,aB,aF,.int .i64 a0.p_.Events,aG,.int .i64 a0.s_.Id,.int .i64 a0.s_.Frame,.int .i64 a0.s_.Epoch,aC,aH,aI,aJ,aD,aK,aA]].toArray [].toArray),(98,.agg #[.int .i64 a0.p_.Id,.bool a0.p_.Mobile,aE,aB,aF,.int .i64 a0.p_.Events,aG,.int .i64 a0.s_.Id,.int .i64 a0.s_.Frame,.int .i64 a0.s_.Epoch,aC,aH,aI,aJ,aD,aK,aA])] (fun wl=>St NB w wl [blkR bA [.int .i64 a0.p_.Id,.bool a0.p_.Mobile,aE,aB,aF,.int .i64 a0.p_.Events,aG,.int .i64 a0.s_.Id,.int .i64 a0.s_.Frame,.int .i64 a0.s_.Epoch,aC,aH,aI,aJ,aD,aK,aA] 219,blkR bB ((Vector.replicate 17 false).toList.map Value.bool) 217,blkR aM [.int .i64 a0.p_.Id,.bool a0.p_.Mobile,aE,aB,aF,.int .i64 a0.p_.Events,aG] 27,blkR aL [.int .i64 a0.s_.Id,.int .i64 a0.s_.Frame,.int .i64 a0.s_.Epoch,aC,aH,aI,aJ,aD,aK,aA] 34] ∧ bE.heap.size ≤ wl.heap.size ∧ Ext eV wl) (fun jn=>?_) ?_
  · rcases Bool.eq_false_or_eq_true bL with bF | bF
    · replace H:=H.know 17 rfl bF
      replace hm:=Zu hm bF
      refine Qq 9 H rfl rfl rfl (Zc rfl Zs4) rfl (by as_aux_lemma=>kernel_rfl) (by as_aux_lemma=>kernel_rfl) (by as_aux_lemma=>kernel_rfl) (by as_aux_lemma=>kernel_rfl) (fun _ _ _ h=>h) ?_;clear H a;intro a H
      refine Wm 10 H rfl rfl rfl (Zf rfl (LdC.old ((aN.blk 3 rfl).ld ag3 rfl) aZ (Nat.le_refl _) (by simp))) rfl (by as_aux_lemma=>kernel_rfl) (by as_aux_lemma=>kernel_rfl) (by as_aux_lemma=>kernel_rfl) (by as_aux_lemma=>kernel_rfl) (fun _ _ _ h=>h) ?_;clear H a;intro a H
      replace hm:=Zj hm;obtain⟨f7,dT,hm⟩:=hm
      refine Zb4 11 H rfl rfl rfl rfl Zlc (Ko (A:=A) dT) rfl (by as_aux_lemma=>kernel_rfl) (fun v w hv=>.inl (ChgF.of_ext (by obtain⟨_,hE0⟩:=hv;exact hE0))) ?_
      clear H;intro f8 f9 hv;clear a;intro a H;obtain⟨rfl,bQ⟩:=hv
      replace hS:=hS.ext bQ
      replace hW:=Nat.le_trans hW bQ.size
      refine Zg 12 H rfl (Zx rfl rfl) rfl (by as_aux_lemma=>kernel_rfl) (by as_aux_lemma=>kernel_rfl) (by as_aux_lemma=>kernel_rfl) (by as_aux_lemma=>kernel_rfl) (fun _ _ _ h=>h) ?_;clear H a;intro a H
      obtain rfl:=Option.some.inj hm
      exact jn _ _ _ H ⟨rfl,rfl,rfl,rfl,rfl,rfl,rfl,rfl,rfl,rfl,rfl,rfl,rfl,rfl,rfl,rfl,rfl,rfl,rfl,rfl,rfl,rfl,rfl,rfl,rfl,rfl,rfl,rfl,rfl,rfl,rfl,rfl,rfl,rfl,rfl,rfl,rfl,rfl,rfl,rfl,rfl,trivial⟩ ⟨hS,hW,bQ⟩
    replace H:=H.know 17 rfl bF
    replace hm:=Zv hm bF
    refine Jg 9 H rfl rfl rfl (by decide) rfl (by as_aux_lemma=>kernel_rfl) (by as_aux_lemma=>kernel_rfl) (by as_aux_lemma=>kernel_rfl) (by as_aux_lemma=>kernel_rfl) (fun _ _ _ h=>h) ?_;clear H a;intro a H
    refine Jg 10 H rfl rfl rfl (by decide) rfl (by as_aux_lemma=>kernel_rfl) (by as_aux_lemma=>kernel_rfl) (by as_aux_lemma=>kernel_rfl) (by as_aux_lemma=>kernel_rfl) (fun _ _ _ h=>h) ?_;clear H a;intro a H
    refine Jg 11 H rfl rfl rfl (by decide) rfl (by as_aux_lemma=>kernel_rfl) (by as_aux_lemma=>kernel_rfl) (by as_aux_lemma=>kernel_rfl) (by as_aux_lemma=>kernel_rfl) (fun _ _ _ h=>h) ?_;clear H a;intro a H
    refine Zg 12 H rfl (Zt rfl rfl) rfl (by as_aux_lemma=>kernel_rfl) (by as_aux_lemma=>kernel_rfl) (by as_aux_lemma=>kernel_rfl) (by as_aux_lemma=>kernel_rfl) (fun _ _ _ h=>h) ?_;clear H a;intro a H
    obtain rfl:=Option.some.inj hm
    exact jn _ _ _ H ⟨rfl,rfl,rfl,rfl,rfl,rfl,rfl,rfl,rfl,rfl,rfl,rfl,rfl,rfl,rfl,rfl,rfl,rfl,rfl,rfl,rfl,rfl,rfl,rfl,rfl,rfl,rfl,rfl,rfl,rfl,rfl,rfl,rfl,rfl,rfl,rfl,rfl,rfl,rfl,rfl,rfl,trivial⟩ ⟨hS,hW,Ext.rfl'⟩
  clear H hS hm hW a;intro a eW H hR;simp only [ent,List.map_cons,List.map_nil] at H;obtain⟨hS,hW,a9⟩:=hR;have hm:=dS
  refine Zg 20 H rfl (Zd rfl) rfl (by as_aux_lemma=>kernel_rfl) (by as_aux_lemma=>kernel_rfl) (by as_aux_lemma=>kernel_rfl) (by as_aux_lemma=>kernel_rfl) (fun _ _ _ h=>h) ?_;clear H a;intro a H
  replace hm:=Zj hm;obtain⟨bN,hm,dU⟩:=hm
  refine Zkw H 43 21 22 23 24 25 26 27 28 [(1,.pointer (some ⟨bA,0,none⟩)),(2,.pointer (some ⟨bB,0,none⟩)),(3,.pointer (some ⟨aM,0,none⟩)),(4,.pointer (some ⟨aL,0,none⟩)),(9,.pointer (some ⟨aL,0,none⟩)),(10,.int .i64 a0.s_.Id),(11,.pointer (some ⟨aM,0,none⟩)),(12,.int .i64 a0.p_.Id),(13,.bool (decide (a0.s_.Id=a0.p_.Id))),(14,.pointer (some ⟨aL,1,none⟩)),(15,.int .i64 a0.s_.Frame),(16,.bool bL),(21,.bool bC),(22,.pointer (some ⟨aL,3,none⟩)),(23,aC),(24,.int .i64 ((a0.s_.Procs.length : Nat) : Int)),(25,.pointer (some ⟨aM,3,none⟩)),(26,aB),(27,.int .i64 ((a0.p_.Procs.length : Nat) : Int)),(28,.bool (decide (a0.s_.Procs.length=a0.p_.Procs.length))),(37,.bool bN),(64,.agg #[.int .i64 a0.p_.Id,.bool a0.p_.Mobile,aE,aB,aF,.int .i64 a0.p_.Events,aG,.int .i64 a0.s_.Id,.int .i64 a0.s_.Frame,.int .i64 a0.s_.Epoch,aC,aH,aI,aJ,aD,aK,aA]),(66,.agg #[.int .i64 a0.p_.Id,.bool a0.p_.Mobile,aE,aB,aF,.int .i64 a0.p_.Events,aG,.int .i64 a0.s_.Id,.int .i64 a0.s_.Frame,.int .i64 a0.s_.Epoch,aC,aH,aI,aJ,aD,aK,aA]),(68,.agg #[.int .i64 a0.p_.Id,.bool a0.p_.Mobile,aE,aB,aF,.int .i64 a0.p_.Events,aG,.int .i64 a0.s_.Id,.int .i64 a0.s_.Frame,.int .i64 a0.s_.Epoch,aC,aH,aI,aJ,aD,aK,aA]),(69,.agg #[.int .i64 a0.p_.Id,.bool a0.p_.Mobile,aE,aB,aF,.int .i64 a0.p_.Events,aG,.int .i64 a0.s_.Id,.int .i64 a0.s_.Frame,.int .i64 a0.s_.Epoch,aC,aH,aI,aJ,aD,aK,aA]),(70,.func (.func 210) [.agg #[.int .i64 a0.p_.Id,.bool a0.p_.Mobile,aE,aB,aF,.int .i64 a0.p_.Events,aG,.int .i64 a0.s_.Id,.int .i64 a0.s_.Frame,.int .i64 a0.s_.Epoch,aC,aH,aI,aJ,aD,aK,aA]].toArray [].toArray),(72,.agg #[.int .i64 a0.p_.Id,.bool a0.p_.Mobile,aE,aB,aF,.int .i64 a0.p_.Events,aG,.int .i64 a0.s_.Id,.int .i64 a0.s_.Frame,.int .i64 a0.s_.Epoch,aC,aH,aI,aJ,aD,aK,aA]),(74,.agg #[.int .i64 a0.p_.Id,.bool a0.p_.Mobile,aE,aB,aF,.int .i64 a0.p_.Events,aG,.int .i64 a0.s_.Id,.int .i64 a0.s_.Frame,.int .i64 a0.s_.Epoch,aC,aH,aI,aJ,aD,aK,aA]),(76,.agg #[.int .i64 a0.p_.Id,.bool a0.p_.Mobile,aE,aB,aF,.int .i64 a0.p_.Events,aG,.int .i64 a0.s_.Id,.int .i64 a0.s_.Frame,.int .i64 a0.s_.Epoch,aC,aH,aI,aJ,aD,aK,aA]),(78,.pointer (some ⟨aL,7,none⟩)),(79,aD),(82,.agg #[.int .i64 a0.p_.Id,.bool a0.p_.Mobile,aE,aB,aF,.int .i64 a0.p_.Events,aG,.int .i64 a0.s_.Id,.int .i64 a0.s_.Frame,.int .i64 a0.s_.Epoch,aC,aH,aI,aJ,aD,aK,aA]),(84,.agg #[.int .i64 a0.p_.Id,.bool a0.p_.Mobile,aE,aB,aF,.int .i64 a0.p_.Events,aG,.int .i64 a0.s_.Id,.int .i64 a0.s_.Frame,.int .i64 a0.s_.Epoch,aC,aH,aI,aJ,aD,aK,aA]),(86,.agg #[.int .i64 a0.p_.Id,.bool a0.p_.Mobile,aE,aB,aF,.int .i64 a0.p_.Events,aG,.int .i64 a0.s_.Id,.int .i64 a0.s_.Frame,.int .i64 a0.s_.Epoch,aC,aH,aI,aJ,aD,aK,aA]),(88,.agg #[.int .i64 a0.p_.Id,.bool a0.p_.Mobile,aE,aB,aF,.int .i64 a0.p_.Events,aG,.int .i64 a0.s_.Id,.int .i64 a0.s_.Frame,.int .i64 a0.s_.Epoch,aC,aH,aI,aJ,aD,aK,aA]),(89,.func (.func 222) [].toArray [.pointer (some ⟨aL,0,none⟩),.pointer (some ⟨aM,0,none⟩)].toArray),(91,.agg #[.int .i64 a0.p_.Id,.bool a0.p_.Mobile,aE,aB,aF,.int .i64 a0.p_.Events,aG,.int .i64 a0.s_.Id,.int .i64 a0.s_.Frame,.int .i64 a0.s_.Epoch,aC,aH,aI,aJ,aD,aK,aA]),(92,.func (.func 224) [].toArray [.pointer (some ⟨aL,0,none⟩),.pointer (some ⟨aM,0,none⟩)].toArray),(94,.agg #[.int .i64 a0.p_.Id,.bool a0.p_.Mobile,aE,aB,aF,.int .i64 a0.p_.Events,aG,.int .i64 a0.s_.Id,.int .i64 a0.s_.Frame,.int .i64 a0.s_.Epoch,aC,aH,aI,aJ,aD,aK,aA]),(95,.agg #[.int .i64 a0.p_.Id,.bool a0.p_.Mobile,aE,aB,aF,.int .i64 a0.p_.Events,aG,.int .i64 a0.s_.Id,.int .i64 a0.s_.Frame,.int .i64 a0.s_.Epoch,aC,aH,aI,aJ,aD,aK,aA]),(96,.func (.func 225) [.agg #[.int .i64 a0.p_.Id,.bool a0.p_.Mobile,aE,aB,aF,.int .i64 a0.p_.Events,aG,.int .i64 a0.s_.Id,.int .i64 a0.s_.Frame,.int .i64 a0.s_.Epoch,aC,aH,aI,aJ,aD,aK,aA]].toArray [].toArray),(98,.agg #[.int .i64 a0.p_.Id,.bool a0.p_.Mobile,aE,aB,aF,.int .i64 a0.p_.Events,aG,.int .i64 a0.s_.Id,.int .i64 a0.s_.Frame,.int .i64 a0.s_.Epoch,aC,aH,aI,aJ,aD,aK,aA])] (fun wl=>St NB w wl [blkR bA [.int .i64 a0.p_.Id,.bool a0.p_.Mobile,aE,aB,aF,.int .i64 a0.p_.Events,aG,.int .i64 a0.s_.Id,.int .i64 a0.s_.Frame,.int .i64 a0.s_.Epoch,aC,aH,aI,aJ,aD,aK,aA] 219,blkR bB ((Vector.replicate 17 false).toList.map Value.bool) 217,blkR aM [.int .i64 a0.p_.Id,.bool a0.p_.Mobile,aE,aB,aF,.int .i64 a0.p_.Events,aG] 27,blkR aL [.int .i64 a0.s_.Id,.int .i64 a0.s_.Frame,.int .i64 a0.s_.Epoch,aC,aH,aI,aJ,aD,aK,aA] 34] ∧ bE.heap.size ≤ wl.heap.size ∧ Ext eW wl) (fun jn=>?_) ?_
  · rcases Bool.eq_false_or_eq_true (decide (a0.s_.Procs.length=a0.p_.Procs.length)) with bG | bG
    · replace H:=H.know 29 rfl bG
      replace hm:=Zu hm bG
      refine Qq 21 H rfl rfl rfl (Zc rfl Zhx) rfl (by as_aux_lemma=>kernel_rfl) (by as_aux_lemma=>kernel_rfl) (by as_aux_lemma=>kernel_rfl) (by as_aux_lemma=>kernel_rfl) (fun _ _ _ h=>h) ?_;clear H a;intro a H
      refine Wm 22 H rfl rfl rfl (Zf rfl (LdC.old ((aN.blk 3 rfl).ld ag31 rfl) (Ext.trans' aZ a9) (Nat.le_refl _) (by simp))) rfl (by as_aux_lemma=>kernel_rfl) (by as_aux_lemma=>kernel_rfl) (by as_aux_lemma=>kernel_rfl) (by as_aux_lemma=>kernel_rfl) (fun _ _ _ h=>h) ?_;clear H a;intro a H
      obtain⟨gA,gB,dV,fB,fC⟩:=SlR.formV (aW.ext Qe.mono hS.x)
      refine Qq 23 H rfl rfl rfl (Qc Tryz.underlying31 rfl dV) rfl (by as_aux_lemma=>kernel_rfl) (by as_aux_lemma=>kernel_rfl) (by as_aux_lemma=>kernel_rfl) (by as_aux_lemma=>kernel_rfl) (fun _ _ _ h=>h) ?_;clear H a;intro a H
      refine Qq 24 H rfl rfl rfl (Zc rfl Tu) rfl (by as_aux_lemma=>kernel_rfl) (by as_aux_lemma=>kernel_rfl) (by as_aux_lemma=>kernel_rfl) (by as_aux_lemma=>kernel_rfl) (fun _ _ _ h=>h) ?_;clear H a;intro a H
      refine Wm 25 H rfl rfl rfl (Zf rfl (LdC.old ((aN.blk 2 rfl).ld Zk2 rfl) (Ext.trans' aZ a9) (Nat.le_refl _) (by simp))) rfl (by as_aux_lemma=>kernel_rfl) (by as_aux_lemma=>kernel_rfl) (by as_aux_lemma=>kernel_rfl) (by as_aux_lemma=>kernel_rfl) (fun _ _ _ h=>h) ?_;clear H a;intro a H
      obtain⟨gC,gD,dW,fD,fE⟩:=SlR.formV (aS.ext (Zi.mono _) hS.x)
      refine Qq 26 H rfl rfl rfl (Qc Tryz.underlying24 rfl dW) rfl (by as_aux_lemma=>kernel_rfl) (by as_aux_lemma=>kernel_rfl) (by as_aux_lemma=>kernel_rfl) (by as_aux_lemma=>kernel_rfl) (fun _ _ _ h=>h) ?_;clear H a;intro a H
      refine Qq 27 H rfl rfl rfl (Zgg (i:=a0.s_.Ports.length) (j:=a0.p_.Ports.length) rfl rfl) rfl (by as_aux_lemma=>kernel_rfl) (by as_aux_lemma=>kernel_rfl) (by as_aux_lemma=>kernel_rfl) (by as_aux_lemma=>kernel_rfl) (fun _ _ _ h=>h) ?_;clear H a;intro a H
      refine Zg 28 H rfl (Zx rfl rfl) rfl (by as_aux_lemma=>kernel_rfl) (by as_aux_lemma=>kernel_rfl) (by as_aux_lemma=>kernel_rfl) (by as_aux_lemma=>kernel_rfl) (fun _ _ _ h=>h) ?_;clear H a;intro a H
      obtain rfl:=Option.some.inj hm
      exact jn _ _ _ H ⟨rfl,rfl,rfl,rfl,rfl,rfl,rfl,rfl,rfl,rfl,rfl,rfl,rfl,rfl,rfl,rfl,rfl,rfl,rfl,rfl,rfl,rfl,rfl,rfl,rfl,rfl,rfl,rfl,rfl,rfl,rfl,rfl,rfl,rfl,rfl,rfl,rfl,rfl,rfl,rfl,rfl,rfl,trivial⟩ ⟨hS,hW,Ext.rfl'⟩
    replace H:=H.know 29 rfl bG
    replace hm:=Zv hm bG
    refine Jg 21 H rfl rfl rfl (by decide) rfl (by as_aux_lemma=>kernel_rfl) (by as_aux_lemma=>kernel_rfl) (by as_aux_lemma=>kernel_rfl) (by as_aux_lemma=>kernel_rfl) (fun _ _ _ h=>h) ?_;clear H a;intro a H
    refine Jg 22 H rfl rfl rfl (by decide) rfl (by as_aux_lemma=>kernel_rfl) (by as_aux_lemma=>kernel_rfl) (by as_aux_lemma=>kernel_rfl) (by as_aux_lemma=>kernel_rfl) (fun _ _ _ h=>h) ?_;clear H a;intro a H
    refine Jg 23 H rfl rfl rfl (by decide) rfl (by as_aux_lemma=>kernel_rfl) (by as_aux_lemma=>kernel_rfl) (by as_aux_lemma=>kernel_rfl) (by as_aux_lemma=>kernel_rfl) (fun _ _ _ h=>h) ?_;clear H a;intro a H
    refine Jg 24 H rfl rfl rfl (by decide) rfl (by as_aux_lemma=>kernel_rfl) (by as_aux_lemma=>kernel_rfl) (by as_aux_lemma=>kernel_rfl) (by as_aux_lemma=>kernel_rfl) (fun _ _ _ h=>h) ?_;clear H a;intro a H
    refine Jg 25 H rfl rfl rfl (by decide) rfl (by as_aux_lemma=>kernel_rfl) (by as_aux_lemma=>kernel_rfl) (by as_aux_lemma=>kernel_rfl) (by as_aux_lemma=>kernel_rfl) (fun _ _ _ h=>h) ?_;clear H a;intro a H
    refine Jg 26 H rfl rfl rfl (by decide) rfl (by as_aux_lemma=>kernel_rfl) (by as_aux_lemma=>kernel_rfl) (by as_aux_lemma=>kernel_rfl) (by as_aux_lemma=>kernel_rfl) (fun _ _ _ h=>h) ?_;clear H a;intro a H
    refine Jg 27 H rfl rfl rfl (by decide) rfl (by as_aux_lemma=>kernel_rfl) (by as_aux_lemma=>kernel_rfl) (by as_aux_lemma=>kernel_rfl) (by as_aux_lemma=>kernel_rfl) (fun _ _ _ h=>h) ?_;clear H a;intro a H
    refine Zg 28 H rfl (Zt rfl rfl) rfl (by as_aux_lemma=>kernel_rfl) (by as_aux_lemma=>kernel_rfl) (by as_aux_lemma=>kernel_rfl) (by as_aux_lemma=>kernel_rfl) (fun _ _ _ h=>h) ?_;clear H a;intro a H
    obtain rfl:=Option.some.inj hm
    exact jn _ _ _ H ⟨rfl,rfl,rfl,rfl,rfl,rfl,rfl,rfl,rfl,rfl,rfl,rfl,rfl,rfl,rfl,rfl,rfl,rfl,rfl,rfl,rfl,rfl,rfl,rfl,rfl,rfl,rfl,rfl,rfl,rfl,rfl,rfl,rfl,rfl,rfl,rfl,rfl,rfl,rfl,rfl,rfl,rfl,trivial⟩ ⟨hS,hW,Ext.rfl'⟩
  clear H hS hm hW a;intro a eX H hR;simp only [ent,List.map_cons,List.map_nil] at H;obtain⟨hS,hW,bD⟩:=hR;have hm:=dU
  refine Zg 29 H rfl (Zd rfl) rfl (by as_aux_lemma=>kernel_rfl) (by as_aux_lemma=>kernel_rfl) (by as_aux_lemma=>kernel_rfl) (by as_aux_lemma=>kernel_rfl) (fun _ _ _ h=>h) ?_;clear H a;intro a H
  replace hm:=Zj hm;obtain⟨bR,hm,dX⟩:=hm
  refine Zkw H 34 30 31 32 33 34 35 36 37 [(1,.pointer (some ⟨bA,0,none⟩)),(2,.pointer (some ⟨bB,0,none⟩)),(3,.pointer (some ⟨aM,0,none⟩)),(4,.pointer (some ⟨aL,0,none⟩)),(9,.pointer (some ⟨aL,0,none⟩)),(10,.int .i64 a0.s_.Id),(11,.pointer (some ⟨aM,0,none⟩)),(12,.int .i64 a0.p_.Id),(13,.bool (decide (a0.s_.Id=a0.p_.Id))),(14,.pointer (some ⟨aL,1,none⟩)),(15,.int .i64 a0.s_.Frame),(16,.bool bL),(21,.bool bC),(22,.pointer (some ⟨aL,3,none⟩)),(23,aC),(24,.int .i64 ((a0.s_.Procs.length : Nat) : Int)),(25,.pointer (some ⟨aM,3,none⟩)),(26,aB),(27,.int .i64 ((a0.p_.Procs.length : Nat) : Int)),(28,.bool (decide (a0.s_.Procs.length=a0.p_.Procs.length))),(37,.bool bN),(46,.bool bR),(64,.agg #[.int .i64 a0.p_.Id,.bool a0.p_.Mobile,aE,aB,aF,.int .i64 a0.p_.Events,aG,.int .i64 a0.s_.Id,.int .i64 a0.s_.Frame,.int .i64 a0.s_.Epoch,aC,aH,aI,aJ,aD,aK,aA]),(66,.agg #[.int .i64 a0.p_.Id,.bool a0.p_.Mobile,aE,aB,aF,.int .i64 a0.p_.Events,aG,.int .i64 a0.s_.Id,.int .i64 a0.s_.Frame,.int .i64 a0.s_.Epoch,aC,aH,aI,aJ,aD,aK,aA]),(68,.agg #[.int .i64 a0.p_.Id,.bool a0.p_.Mobile,aE,aB,aF,.int .i64 a0.p_.Events,aG,.int .i64 a0.s_.Id,.int .i64 a0.s_.Frame,.int .i64 a0.s_.Epoch,aC,aH,aI,aJ,aD,aK,aA]),(69,.agg #[.int .i64 a0.p_.Id,.bool a0.p_.Mobile,aE,aB,aF,.int .i64 a0.p_.Events,aG,.int .i64 a0.s_.Id,.int .i64 a0.s_.Frame,.int .i64 a0.s_.Epoch,aC,aH,aI,aJ,aD,aK,aA]),(70,.func (.func 210) [.agg #[.int .i64 a0.p_.Id,.bool a0.p_.Mobile,aE,aB,aF,.int .i64 a0.p_.Events,aG,.int .i64 a0.s_.Id,.int .i64 a0.s_.Frame,.int .i64 a0.s_.Epoch,aC,aH,aI,aJ,aD,aK,aA]].toArray [].toArray),(72,.agg #[.int .i64 a0.p_.Id,.bool a0.p_.Mobile,aE,aB,aF,.int .i64 a0.p_.Events,aG,.int .i64 a0.s_.Id,.int .i64 a0.s_.Frame,.int .i64 a0.s_.Epoch,aC,aH,aI,aJ,aD,aK,aA]),(74,.agg #[.int .i64 a0.p_.Id,.bool a0.p_.Mobile,aE,aB,aF,.int .i64 a0.p_.Events,aG,.int .i64 a0.s_.Id,.int .i64 a0.s_.Frame,.int .i64 a0.s_.Epoch,aC,aH,aI,aJ,aD,aK,aA]),(76,.agg #[.int .i64 a0.p_.Id,.bool a0.p_.Mobile,aE,aB,aF,.int .i64 a0.p_.Events,aG,.int .i64 a0.s_.Id,.int .i64 a0.s_.Frame,.int .i64 a0.s_.Epoch,aC,aH,aI,aJ,aD,aK,aA]),(78,.pointer (some ⟨aL,7,none⟩)),(79,aD),(82,.agg #[.int .i64 a0.p_.Id,.bool a0.p_.Mobile,aE,aB,aF,.int .i64 a0.p_.Events,aG,.int .i64 a0.s_.Id,.int .i64 a0.s_.Frame,.int .i64 a0.s_.Epoch,aC,aH,aI,aJ,aD,aK,aA]),(84,.agg #[.int .i64 a0.p_.Id,.bool a0.p_.Mobile,aE,aB,aF,.int .i64 a0.p_.Events,aG,.int .i64 a0.s_.Id,.int .i64 a0.s_.Frame,.int .i64 a0.s_.Epoch,aC,aH,aI,aJ,aD,aK,aA]),(86,.agg #[.int .i64 a0.p_.Id,.bool a0.p_.Mobile,aE,aB,aF,.int .i64 a0.p_.Events,aG,.int .i64 a0.s_.Id,.int .i64 a0.s_.Frame,.int .i64 a0.s_.Epoch,aC,aH,aI,aJ,aD,aK,aA]),(88,.agg #[.int .i64 a0.p_.Id,.bool a0.p_.Mobile,aE,aB,aF,.int .i64 a0.p_.Events,aG,.int .i64 a0.s_.Id,.int .i64 a0.s_.Frame,.int .i64 a0.s_.Epoch,aC,aH,aI,aJ,aD,aK,aA]),(89,.func (.func 222) [].toArray [.pointer (some ⟨aL,0,none⟩),.pointer (some ⟨aM,0,none⟩)].toArray),(91,.agg #[.int .i64 a0.p_.Id,.bool a0.p_.Mobile,aE,aB,aF,.int .i64 a0.p_.Events,aG,.int .i64 a0.s_.Id,.int .i64 a0.s_.Frame,.int .i64 a0.s_.Epoch,aC,aH,aI,aJ,aD,aK,aA]),(92,.func (.func 224) [].toArray [.pointer (some ⟨aL,0,none⟩),.pointer (some ⟨aM,0,none⟩)].toArray),(94,.agg #[.int .i64 a0.p_.Id,.bool a0.p_.Mobile,aE,aB,aF,.int .i64 a0.p_.Events,aG,.int .i64 a0.s_.Id,.int .i64 a0.s_.Frame,.int .i64 a0.s_.Epoch,aC,aH,aI,aJ,aD,aK,aA]),(95,.agg #[.int .i64 a0.p_.Id,.bool a0.p_.Mobile,aE,aB,aF,.int .i64 a0.p_.Events,aG,.int .i64 a0.s_.Id,.int .i64 a0.s_.Frame,.int .i64 a0.s_.Epoch,aC,aH,aI,aJ,aD,aK,aA]),(96,.func (.func 225) [.agg #[.int .i64 a0.p_.Id,.bool a0.p_.Mobile,aE,aB,aF,.int .i64 a0.p_.Events,aG,.int .i64 a0.s_.Id,.int .i64 a0.s_.Frame,.int .i64 a0.s_.Epoch,aC,aH,aI,aJ,aD,aK,aA]].toArray [].toArray),(98,.agg #[.int .i64 a0.p_.Id,.bool a0.p_.Mobile,aE,aB,aF,.int .i64 a0.p_.Events,aG,.int .i64 a0.s_.Id,.int .i64 a0.s_.Frame,.int .i64 a0.s_.Epoch,aC,aH,aI,aJ,aD,aK,aA])] (fun wl=>St NB w wl [blkR bA [.int .i64 a0.p_.Id,.bool a0.p_.Mobile,aE,aB,aF,.int .i64 a0.p_.Events,aG,.int .i64 a0.s_.Id,.int .i64 a0.s_.Frame,.int .i64 a0.s_.Epoch,aC,aH,aI,aJ,aD,aK,aA] 219,blkR bB ((Vector.replicate 17 false).toList.map Value.bool) 217,blkR aM [.int .i64 a0.p_.Id,.bool a0.p_.Mobile,aE,aB,aF,.int .i64 a0.p_.Events,aG] 27,blkR aL [.int .i64 a0.s_.Id,.int .i64 a0.s_.Frame,.int .i64 a0.s_.Epoch,aC,aH,aI,aJ,aD,aK,aA] 34] ∧ bE.heap.size ≤ wl.heap.size ∧ Ext eX wl) (fun jn=>?_) ?_
  · rcases Bool.eq_false_or_eq_true bN with bH | bH
    · replace H:=H.know 38 rfl bH
      replace hm:=Zu hm bH
      refine Qq 30 H rfl rfl rfl (Zc rfl Zgj) rfl (by as_aux_lemma=>kernel_rfl) (by as_aux_lemma=>kernel_rfl) (by as_aux_lemma=>kernel_rfl) (by as_aux_lemma=>kernel_rfl) (fun _ _ _ h=>h) ?_;clear H a;intro a H
      refine Wm 31 H rfl rfl rfl (Zf rfl (LdC.old ((aN.blk 3 rfl).ld ag32 rfl) (Ext.trans' (Ext.trans' aZ a9) bD) (Nat.le_refl _) (by simp))) rfl (by as_aux_lemma=>kernel_rfl) (by as_aux_lemma=>kernel_rfl) (by as_aux_lemma=>kernel_rfl) (by as_aux_lemma=>kernel_rfl) (fun _ _ _ h=>h) ?_;clear H a;intro a H
      obtain⟨gE,gF,dY,fF,fG⟩:=SlR.formV (aO.ext (Zi.mono _) hS.x)
      refine Qq 32 H rfl rfl rfl (Qc Tryz.underlying32 rfl dY) rfl (by as_aux_lemma=>kernel_rfl) (by as_aux_lemma=>kernel_rfl) (by as_aux_lemma=>kernel_rfl) (by as_aux_lemma=>kernel_rfl) (fun _ _ _ h=>h) ?_;clear H a;intro a H
      refine Qq 33 H rfl rfl rfl (Zc rfl Zap) rfl (by as_aux_lemma=>kernel_rfl) (by as_aux_lemma=>kernel_rfl) (by as_aux_lemma=>kernel_rfl) (by as_aux_lemma=>kernel_rfl) (fun _ _ _ h=>h) ?_;clear H a;intro a H
      refine Wm 34 H rfl rfl rfl (Zf rfl (LdC.old ((aN.blk 2 rfl).ld Zmo rfl) (Ext.trans' (Ext.trans' aZ a9) bD) (Nat.le_refl _) (by simp))) rfl (by as_aux_lemma=>kernel_rfl) (by as_aux_lemma=>kernel_rfl) (by as_aux_lemma=>kernel_rfl) (by as_aux_lemma=>kernel_rfl) (fun _ _ _ h=>h) ?_;clear H a;intro a H
      obtain⟨gG,gH,dZ,fH,fI⟩:=SlR.formV (aQ.ext (Zi.mono _) hS.x)
      refine Qq 35 H rfl rfl rfl (Qc Tryz.underlying22 rfl dZ) rfl (by as_aux_lemma=>kernel_rfl) (by as_aux_lemma=>kernel_rfl) (by as_aux_lemma=>kernel_rfl) (by as_aux_lemma=>kernel_rfl) (fun _ _ _ h=>h) ?_;clear H a;intro a H
      refine Qq 36 H rfl rfl rfl (Zgg (i:=a0.s_.Pages.length) (j:=a0.p_.Pages.length) rfl rfl) rfl (by as_aux_lemma=>kernel_rfl) (by as_aux_lemma=>kernel_rfl) (by as_aux_lemma=>kernel_rfl) (by as_aux_lemma=>kernel_rfl) (fun _ _ _ h=>h) ?_;clear H a;intro a H
      refine Zg 37 H rfl (Zx rfl rfl) rfl (by as_aux_lemma=>kernel_rfl) (by as_aux_lemma=>kernel_rfl) (by as_aux_lemma=>kernel_rfl) (by as_aux_lemma=>kernel_rfl) (fun _ _ _ h=>h) ?_;clear H a;intro a H
      obtain rfl:=Option.some.inj hm
      exact jn _ _ _ H ⟨rfl,rfl,rfl,rfl,rfl,rfl,rfl,rfl,rfl,rfl,rfl,rfl,rfl,rfl,rfl,rfl,rfl,rfl,rfl,rfl,rfl,rfl,rfl,rfl,rfl,rfl,rfl,rfl,rfl,rfl,rfl,rfl,rfl,rfl,rfl,rfl,rfl,rfl,rfl,rfl,rfl,rfl,rfl,trivial⟩ ⟨hS,hW,Ext.rfl'⟩
    replace H:=H.know 38 rfl bH
    replace hm:=Zv hm bH
    refine Jg 30 H rfl rfl rfl (by decide) rfl (by as_aux_lemma=>kernel_rfl) (by as_aux_lemma=>kernel_rfl) (by as_aux_lemma=>kernel_rfl) (by as_aux_lemma=>kernel_rfl) (fun _ _ _ h=>h) ?_;clear H a;intro a H
    refine Jg 31 H rfl rfl rfl (by decide) rfl (by as_aux_lemma=>kernel_rfl) (by as_aux_lemma=>kernel_rfl) (by as_aux_lemma=>kernel_rfl) (by as_aux_lemma=>kernel_rfl) (fun _ _ _ h=>h) ?_;clear H a;intro a H
    refine Jg 32 H rfl rfl rfl (by decide) rfl (by as_aux_lemma=>kernel_rfl) (by as_aux_lemma=>kernel_rfl) (by as_aux_lemma=>kernel_rfl) (by as_aux_lemma=>kernel_rfl) (fun _ _ _ h=>h) ?_;clear H a;intro a H
    refine Jg 33 H rfl rfl rfl (by decide) rfl (by as_aux_lemma=>kernel_rfl) (by as_aux_lemma=>kernel_rfl) (by as_aux_lemma=>kernel_rfl) (by as_aux_lemma=>kernel_rfl) (fun _ _ _ h=>h) ?_;clear H a;intro a H
    refine Jg 34 H rfl rfl rfl (by decide) rfl (by as_aux_lemma=>kernel_rfl) (by as_aux_lemma=>kernel_rfl) (by as_aux_lemma=>kernel_rfl) (by as_aux_lemma=>kernel_rfl) (fun _ _ _ h=>h) ?_;clear H a;intro a H
    refine Jg 35 H rfl rfl rfl (by decide) rfl (by as_aux_lemma=>kernel_rfl) (by as_aux_lemma=>kernel_rfl) (by as_aux_lemma=>kernel_rfl) (by as_aux_lemma=>kernel_rfl) (fun _ _ _ h=>h) ?_;clear H a;intro a H
    refine Jg 36 H rfl rfl rfl (by decide) rfl (by as_aux_lemma=>kernel_rfl) (by as_aux_lemma=>kernel_rfl) (by as_aux_lemma=>kernel_rfl) (by as_aux_lemma=>kernel_rfl) (fun _ _ _ h=>h) ?_;clear H a;intro a H
    refine Zg 37 H rfl (Zt rfl rfl) rfl (by as_aux_lemma=>kernel_rfl) (by as_aux_lemma=>kernel_rfl) (by as_aux_lemma=>kernel_rfl) (by as_aux_lemma=>kernel_rfl) (fun _ _ _ h=>h) ?_;clear H a;intro a H
    obtain rfl:=Option.some.inj hm
    exact jn _ _ _ H ⟨rfl,rfl,rfl,rfl,rfl,rfl,rfl,rfl,rfl,rfl,rfl,rfl,rfl,rfl,rfl,rfl,rfl,rfl,rfl,rfl,rfl,rfl,rfl,rfl,rfl,rfl,rfl,rfl,rfl,rfl,rfl,rfl,rfl,rfl,rfl,rfl,rfl,rfl,rfl,rfl,rfl,rfl,rfl,trivial⟩ ⟨hS,hW,Ext.rfl'⟩
  clear H hS hm hW a;intro a eY H hR;simp only [ent,List.map_cons,List.map_nil] at H;obtain⟨hS,hW,bM⟩:=hR;have hm:=dX
  refine Zg 38 H rfl (Zd rfl) rfl (by as_aux_lemma=>kernel_rfl) (by as_aux_lemma=>kernel_rfl) (by as_aux_lemma=>kernel_rfl) (by as_aux_lemma=>kernel_rfl) (fun _ _ _ h=>h) ?_;clear H a;intro a H
  replace hm:=Zj hm;obtain⟨bX,hm,d5⟩:=hm
  refine k_mid7 H 26 39 40 41 42 43 44 45 [(1,.pointer (some ⟨bA,0,none⟩)),(2,.pointer (some ⟨bB,0,none⟩)),(3,.pointer (some ⟨aM,0,none⟩)),(4,.pointer (some ⟨aL,0,none⟩)),(9,.pointer (some ⟨aL,0,none⟩)),(10,.int .i64 a0.s_.Id),(11,.pointer (some ⟨aM,0,none⟩)),(12,.int .i64 a0.p_.Id),(13,.bool (decide (a0.s_.Id=a0.p_.Id))),(14,.pointer (some ⟨aL,1,none⟩)),(15,.int .i64 a0.s_.Frame),(16,.bool bL),(21,.bool bC),(22,.pointer (some ⟨aL,3,none⟩)),(23,aC),(24,.int .i64 ((a0.s_.Procs.length : Nat) : Int)),(25,.pointer (some ⟨aM,3,none⟩)),(26,aB),(27,.int .i64 ((a0.p_.Procs.length : Nat) : Int)),(28,.bool (decide (a0.s_.Procs.length=a0.p_.Procs.length))),(37,.bool bN),(46,.bool bR),(54,.bool bX),(64,.agg #[.int .i64 a0.p_.Id,.bool a0.p_.Mobile,aE,aB,aF,.int .i64 a0.p_.Events,aG,.int .i64 a0.s_.Id,.int .i64 a0.s_.Frame,.int .i64 a0.s_.Epoch,aC,aH,aI,aJ,aD,aK,aA]),(66,.agg #[.int .i64 a0.p_.Id,.bool a0.p_.Mobile,aE,aB,aF,.int .i64 a0.p_.Events,aG,.int .i64 a0.s_.Id,.int .i64 a0.s_.Frame,.int .i64 a0.s_.Epoch,aC,aH,aI,aJ,aD,aK,aA]),(68,.agg #[.int .i64 a0.p_.Id,.bool a0.p_.Mobile,aE,aB,aF,.int .i64 a0.p_.Events,aG,.int .i64 a0.s_.Id,.int .i64 a0.s_.Frame,.int .i64 a0.s_.Epoch,aC,aH,aI,aJ,aD,aK,aA]),(69,.agg #[.int .i64 a0.p_.Id,.bool a0.p_.Mobile,aE,aB,aF,.int .i64 a0.p_.Events,aG,.int .i64 a0.s_.Id,.int .i64 a0.s_.Frame,.int .i64 a0.s_.Epoch,aC,aH,aI,aJ,aD,aK,aA]),(70,.func (.func 210) [.agg #[.int .i64 a0.p_.Id,.bool a0.p_.Mobile,aE,aB,aF,.int .i64 a0.p_.Events,aG,.int .i64 a0.s_.Id,.int .i64 a0.s_.Frame,.int .i64 a0.s_.Epoch,aC,aH,aI,aJ,aD,aK,aA]].toArray [].toArray),(72,.agg #[.int .i64 a0.p_.Id,.bool a0.p_.Mobile,aE,aB,aF,.int .i64 a0.p_.Events,aG,.int .i64 a0.s_.Id,.int .i64 a0.s_.Frame,.int .i64 a0.s_.Epoch,aC,aH,aI,aJ,aD,aK,aA]),(74,.agg #[.int .i64 a0.p_.Id,.bool a0.p_.Mobile,aE,aB,aF,.int .i64 a0.p_.Events,aG,.int .i64 a0.s_.Id,.int .i64 a0.s_.Frame,.int .i64 a0.s_.Epoch,aC,aH,aI,aJ,aD,aK,aA]),(76,.agg #[.int .i64 a0.p_.Id,.bool a0.p_.Mobile,aE,aB,aF,.int .i64 a0.p_.Events,aG,.int .i64 a0.s_.Id,.int .i64 a0.s_.Frame,.int .i64 a0.s_.Epoch,aC,aH,aI,aJ,aD,aK,aA]),(78,.pointer (some ⟨aL,7,none⟩)),(79,aD),(82,.agg #[.int .i64 a0.p_.Id,.bool a0.p_.Mobile,aE,aB,aF,.int .i64 a0.p_.Events,aG,.int .i64 a0.s_.Id,.int .i64 a0.s_.Frame,.int .i64 a0.s_.Epoch,aC,aH,aI,aJ,aD,aK,aA]),(84,.agg #[.int .i64 a0.p_.Id,.bool a0.p_.Mobile,aE,aB,aF,.int .i64 a0.p_.Events,aG,.int .i64 a0.s_.Id,.int .i64 a0.s_.Frame,.int .i64 a0.s_.Epoch,aC,aH,aI,aJ,aD,aK,aA]),(86,.agg #[.int .i64 a0.p_.Id,.bool a0.p_.Mobile,aE,aB,aF,.int .i64 a0.p_.Events,aG,.int .i64 a0.s_.Id,.int .i64 a0.s_.Frame,.int .i64 a0.s_.Epoch,aC,aH,aI,aJ,aD,aK,aA]),(88,.agg #[.int .i64 a0.p_.Id,.bool a0.p_.Mobile,aE,aB,aF,.int .i64 a0.p_.Events,aG,.int .i64 a0.s_.Id,.int .i64 a0.s_.Frame,.int .i64 a0.s_.Epoch,aC,aH,aI,aJ,aD,aK,aA]),(89,.func (.func 222) [].toArray [.pointer (some ⟨aL,0,none⟩),.pointer (some ⟨aM,0,none⟩)].toArray),(91,.agg #[.int .i64 a0.p_.Id,.bool a0.p_.Mobile,aE,aB,aF,.int .i64 a0.p_.Events,aG,.int .i64 a0.s_.Id,.int .i64 a0.s_.Frame,.int .i64 a0.s_.Epoch,aC,aH,aI,aJ,aD,aK,aA]),(92,.func (.func 224) [].toArray [.pointer (some ⟨aL,0,none⟩),.pointer (some ⟨aM,0,none⟩)].toArray),(94,.agg #[.int .i64 a0.p_.Id,.bool a0.p_.Mobile,aE,aB,aF,.int .i64 a0.p_.Events,aG,.int .i64 a0.s_.Id,.int .i64 a0.s_.Frame,.int .i64 a0.s_.Epoch,aC,aH,aI,aJ,aD,aK,aA]),(95,.agg #[.int .i64 a0.p_.Id,.bool a0.p_.Mobile,aE,aB,aF,.int .i64 a0.p_.Events,aG,.int .i64 a0.s_.Id,.int .i64 a0.s_.Frame,.int .i64 a0.s_.Epoch,aC,aH,aI,aJ,aD,aK,aA]),(96,.func (.func 225) [.agg #[.int .i64 a0.p_.Id,.bool a0.p_.Mobile,aE,aB,aF,.int .i64 a0.p_.Events,aG,.int .i64 a0.s_.Id,.int .i64 a0.s_.Frame,.int .i64 a0.s_.Epoch,aC,aH,aI,aJ,aD,aK,aA]].toArray [].toArray),(98,.agg #[.int .i64 a0.p_.Id,.bool a0.p_.Mobile,aE,aB,aF,.int .i64 a0.p_.Events,aG,.int .i64 a0.s_.Id,.int .i64 a0.s_.Frame,.int .i64 a0.s_.Epoch,aC,aH,aI,aJ,aD,aK,aA])] (fun wl=>St NB w wl [blkR bA [.int .i64 a0.p_.Id,.bool a0.p_.Mobile,aE,aB,aF,.int .i64 a0.p_.Events,aG,.int .i64 a0.s_.Id,.int .i64 a0.s_.Frame,.int .i64 a0.s_.Epoch,aC,aH,aI,aJ,aD,aK,aA] 219,blkR bB ((Vector.replicate 17 false).toList.map Value.bool) 217,blkR aM [.int .i64 a0.p_.Id,.bool a0.p_.Mobile,aE,aB,aF,.int .i64 a0.p_.Events,aG] 27,blkR aL [.int .i64 a0.s_.Id,.int .i64 a0.s_.Frame,.int .i64 a0.s_.Epoch,aC,aH,aI,aJ,aD,aK,aA] 34] ∧ bE.heap.size ≤ wl.heap.size ∧ Ext eY wl) (fun jn=>?_) ?_
  · rcases Bool.eq_false_or_eq_true bR with bI | bI
    · replace H:=H.know 47 rfl bI
      replace hm:=Zu hm bI
      refine Qq 39 H rfl rfl rfl (Zc rfl Zle) rfl (by as_aux_lemma=>kernel_rfl) (by as_aux_lemma=>kernel_rfl) (by as_aux_lemma=>kernel_rfl) (by as_aux_lemma=>kernel_rfl) (fun _ _ _ h=>h) ?_;clear H a;intro a H
      refine Wm 40 H rfl rfl rfl (Zf rfl (LdC.old ((aN.blk 3 rfl).ld ag30 rfl) (Ext.trans' (Ext.trans' (Ext.trans' aZ a9) bD) bM) (Nat.le_refl _) (by simp))) rfl (by as_aux_lemma=>kernel_rfl) (by as_aux_lemma=>kernel_rfl) (by as_aux_lemma=>kernel_rfl) (by as_aux_lemma=>kernel_rfl) (fun _ _ _ h=>h) ?_;clear H a;intro a H
      obtain⟨gI,gJ,d6,fJ,fK⟩:=SlR.formV (aV.ext (Zi.mono _) hS.x)
      refine Qq 41 H rfl rfl rfl (Qc Tryz.underlying30 rfl d6) rfl (by as_aux_lemma=>kernel_rfl) (by as_aux_lemma=>kernel_rfl) (by as_aux_lemma=>kernel_rfl) (by as_aux_lemma=>kernel_rfl) (fun _ _ _ h=>h) ?_;clear H a;intro a H
      refine Qq 42 H rfl rfl rfl (Zc rfl Zdq) rfl (by as_aux_lemma=>kernel_rfl) (by as_aux_lemma=>kernel_rfl) (by as_aux_lemma=>kernel_rfl) (by as_aux_lemma=>kernel_rfl) (fun _ _ _ h=>h) ?_;clear H a;intro a H
      refine Wm 43 H rfl rfl rfl (Zf rfl (LdC.old ((aN.blk 2 rfl).ld ag3 rfl) (Ext.trans' (Ext.trans' (Ext.trans' aZ a9) bD) bM) (Nat.le_refl _) (by simp))) rfl (by as_aux_lemma=>kernel_rfl) (by as_aux_lemma=>kernel_rfl) (by as_aux_lemma=>kernel_rfl) (by as_aux_lemma=>kernel_rfl) (fun _ _ _ h=>h) ?_;clear H a;intro a H
      refine Qq 44 H rfl rfl rfl (Jy rfl rfl) rfl (by as_aux_lemma=>kernel_rfl) (by as_aux_lemma=>kernel_rfl) (by as_aux_lemma=>kernel_rfl) (by as_aux_lemma=>kernel_rfl) (fun _ _ _ h=>h) ?_;clear H a;intro a H
      refine Zg 45 H rfl (Zx rfl rfl) rfl (by as_aux_lemma=>kernel_rfl) (by as_aux_lemma=>kernel_rfl) (by as_aux_lemma=>kernel_rfl) (by as_aux_lemma=>kernel_rfl) (fun _ _ _ h=>h) ?_;clear H a;intro a H
      obtain rfl:=Option.some.inj hm
      exact jn _ _ _ H ⟨rfl,rfl,rfl,rfl,rfl,rfl,rfl,rfl,rfl,rfl,rfl,rfl,rfl,rfl,rfl,rfl,rfl,rfl,rfl,rfl,rfl,rfl,rfl,rfl,rfl,rfl,rfl,rfl,rfl,rfl,rfl,rfl,rfl,rfl,rfl,rfl,rfl,rfl,rfl,rfl,rfl,rfl,rfl,rfl,trivial⟩ ⟨hS,hW,Ext.rfl'⟩
    replace H:=H.know 47 rfl bI
    replace hm:=Zv hm bI
    refine Jg 39 H rfl rfl rfl (by decide) rfl (by as_aux_lemma=>kernel_rfl) (by as_aux_lemma=>kernel_rfl) (by as_aux_lemma=>kernel_rfl) (by as_aux_lemma=>kernel_rfl) (fun _ _ _ h=>h) ?_;clear H a;intro a H
    refine Jg 40 H rfl rfl rfl (by decide) rfl (by as_aux_lemma=>kernel_rfl) (by as_aux_lemma=>kernel_rfl) (by as_aux_lemma=>kernel_rfl) (by as_aux_lemma=>kernel_rfl) (fun _ _ _ h=>h) ?_;clear H a;intro a H
    refine Jg 41 H rfl rfl rfl (by decide) rfl (by as_aux_lemma=>kernel_rfl) (by as_aux_lemma=>kernel_rfl) (by as_aux_lemma=>kernel_rfl) (by as_aux_lemma=>kernel_rfl) (fun _ _ _ h=>h) ?_;clear H a;intro a H
    refine Jg 42 H rfl rfl rfl (by decide) rfl (by as_aux_lemma=>kernel_rfl) (by as_aux_lemma=>kernel_rfl) (by as_aux_lemma=>kernel_rfl) (by as_aux_lemma=>kernel_rfl) (fun _ _ _ h=>h) ?_;clear H a;intro a H
    refine Jg 43 H rfl rfl rfl (by decide) rfl (by as_aux_lemma=>kernel_rfl) (by as_aux_lemma=>kernel_rfl) (by as_aux_lemma=>kernel_rfl) (by as_aux_lemma=>kernel_rfl) (fun _ _ _ h=>h) ?_;clear H a;intro a H
    refine Jg 44 H rfl rfl rfl (by decide) rfl (by as_aux_lemma=>kernel_rfl) (by as_aux_lemma=>kernel_rfl) (by as_aux_lemma=>kernel_rfl) (by as_aux_lemma=>kernel_rfl) (fun _ _ _ h=>h) ?_;clear H a;intro a H
    refine Zg 45 H rfl (Zt rfl rfl) rfl (by as_aux_lemma=>kernel_rfl) (by as_aux_lemma=>kernel_rfl) (by as_aux_lemma=>kernel_rfl) (by as_aux_lemma=>kernel_rfl) (fun _ _ _ h=>h) ?_;clear H a;intro a H
    obtain rfl:=Option.some.inj hm
    exact jn _ _ _ H ⟨rfl,rfl,rfl,rfl,rfl,rfl,rfl,rfl,rfl,rfl,rfl,rfl,rfl,rfl,rfl,rfl,rfl,rfl,rfl,rfl,rfl,rfl,rfl,rfl,rfl,rfl,rfl,rfl,rfl,rfl,rfl,rfl,rfl,rfl,rfl,rfl,rfl,rfl,rfl,rfl,rfl,rfl,rfl,rfl,trivial⟩ ⟨hS,hW,Ext.rfl'⟩
  clear H hS hm hW a;intro a eZ H hR;simp only [ent,List.map_cons,List.map_nil] at H;obtain⟨hS,hW,cT⟩:=hR;have hm:=d5
  refine Zg 46 H rfl (Zd rfl) rfl (by as_aux_lemma=>kernel_rfl) (by as_aux_lemma=>kernel_rfl) (by as_aux_lemma=>kernel_rfl) (by as_aux_lemma=>kernel_rfl) (fun _ _ _ h=>h) ?_;clear H a;intro a H
  replace hm:=Zj hm;obtain⟨bS,hm,d7⟩:=hm
  refine Zkw H 17 47 48 49 50 51 52 53 54 [(1,.pointer (some ⟨bA,0,none⟩)),(2,.pointer (some ⟨bB,0,none⟩)),(3,.pointer (some ⟨aM,0,none⟩)),(4,.pointer (some ⟨aL,0,none⟩)),(9,.pointer (some ⟨aL,0,none⟩)),(10,.int .i64 a0.s_.Id),(11,.pointer (some ⟨aM,0,none⟩)),(12,.int .i64 a0.p_.Id),(13,.bool (decide (a0.s_.Id=a0.p_.Id))),(14,.pointer (some ⟨aL,1,none⟩)),(15,.int .i64 a0.s_.Frame),(16,.bool bL),(21,.bool bC),(22,.pointer (some ⟨aL,3,none⟩)),(23,aC),(24,.int .i64 ((a0.s_.Procs.length : Nat) : Int)),(25,.pointer (some ⟨aM,3,none⟩)),(26,aB),(27,.int .i64 ((a0.p_.Procs.length : Nat) : Int)),(28,.bool (decide (a0.s_.Procs.length=a0.p_.Procs.length))),(37,.bool bN),(46,.bool bR),(54,.bool bX),(63,.bool bS),(64,.agg #[.int .i64 a0.p_.Id,.bool a0.p_.Mobile,aE,aB,aF,.int .i64 a0.p_.Events,aG,.int .i64 a0.s_.Id,.int .i64 a0.s_.Frame,.int .i64 a0.s_.Epoch,aC,aH,aI,aJ,aD,aK,aA]),(66,.agg #[.int .i64 a0.p_.Id,.bool a0.p_.Mobile,aE,aB,aF,.int .i64 a0.p_.Events,aG,.int .i64 a0.s_.Id,.int .i64 a0.s_.Frame,.int .i64 a0.s_.Epoch,aC,aH,aI,aJ,aD,aK,aA]),(68,.agg #[.int .i64 a0.p_.Id,.bool a0.p_.Mobile,aE,aB,aF,.int .i64 a0.p_.Events,aG,.int .i64 a0.s_.Id,.int .i64 a0.s_.Frame,.int .i64 a0.s_.Epoch,aC,aH,aI,aJ,aD,aK,aA]),(69,.agg #[.int .i64 a0.p_.Id,.bool a0.p_.Mobile,aE,aB,aF,.int .i64 a0.p_.Events,aG,.int .i64 a0.s_.Id,.int .i64 a0.s_.Frame,.int .i64 a0.s_.Epoch,aC,aH,aI,aJ,aD,aK,aA]),(70,.func (.func 210) [.agg #[.int .i64 a0.p_.Id,.bool a0.p_.Mobile,aE,aB,aF,.int .i64 a0.p_.Events,aG,.int .i64 a0.s_.Id,.int .i64 a0.s_.Frame,.int .i64 a0.s_.Epoch,aC,aH,aI,aJ,aD,aK,aA]].toArray [].toArray),(72,.agg #[.int .i64 a0.p_.Id,.bool a0.p_.Mobile,aE,aB,aF,.int .i64 a0.p_.Events,aG,.int .i64 a0.s_.Id,.int .i64 a0.s_.Frame,.int .i64 a0.s_.Epoch,aC,aH,aI,aJ,aD,aK,aA]),(74,.agg #[.int .i64 a0.p_.Id,.bool a0.p_.Mobile,aE,aB,aF,.int .i64 a0.p_.Events,aG,.int .i64 a0.s_.Id,.int .i64 a0.s_.Frame,.int .i64 a0.s_.Epoch,aC,aH,aI,aJ,aD,aK,aA]),(76,.agg #[.int .i64 a0.p_.Id,.bool a0.p_.Mobile,aE,aB,aF,.int .i64 a0.p_.Events,aG,.int .i64 a0.s_.Id,.int .i64 a0.s_.Frame,.int .i64 a0.s_.Epoch,aC,aH,aI,aJ,aD,aK,aA]),(78,.pointer (some ⟨aL,7,none⟩)),(79,aD),(82,.agg #[.int .i64 a0.p_.Id,.bool a0.p_.Mobile,aE,aB,aF,.int .i64 a0.p_.Events,aG,.int .i64 a0.s_.Id,.int .i64 a0.s_.Frame,.int .i64 a0.s_.Epoch,aC,aH,aI,aJ,aD,aK,aA]),(84,.agg #[.int .i64 a0.p_.Id,.bool a0.p_.Mobile,aE,aB,aF,.int .i64 a0.p_.Events,aG,.int .i64 a0.s_.Id,.int .i64 a0.s_.Frame,.int .i64 a0.s_.Epoch,aC,aH,aI,aJ,aD,aK,aA]),(86,.agg #[.int .i64 a0.p_.Id,.bool a0.p_.Mobile,aE,aB,aF,.int .i64 a0.p_.Events,aG,.int .i64 a0.s_.Id,.int .i64 a0.s_.Frame,.int .i64 a0.s_.Epoch,aC,aH,aI,aJ,aD,aK,aA]),(88,.agg #[.int .i64 a0.p_.Id,.bool a0.p_.Mobile,aE,aB,aF,.int .i64 a0.p_.Events,aG,.int .i64 a0.s_.Id,.int .i64 a0.s_.Frame,.int .i64 a0.s_.Epoch,aC,aH,aI,aJ,aD,aK,aA]),(89,.func (.func 222) [].toArray [.pointer (some ⟨aL,0,none⟩),.pointer (some ⟨aM,0,none⟩)].toArray),(91,.agg #[.int .i64 a0.p_.Id,.bool a0.p_.Mobile,aE,aB,aF,.int .i64 a0.p_.Events,aG,.int .i64 a0.s_.Id,.int .i64 a0.s_.Frame,.int .i64 a0.s_.Epoch,aC,aH,aI,aJ,aD,aK,aA]),(92,.func (.func 224) [].toArray [.pointer (some ⟨aL,0,none⟩),.pointer (some ⟨aM,0,none⟩)].toArray),(94,.agg #[.int .i64 a0.p_.Id,.bool a0.p_.Mobile,aE,aB,aF,.int .i64 a0.p_.Events,aG,.int .i64 a0.s_.Id,.int .i64 a0.s_.Frame,.int .i64 a0.s_.Epoch,aC,aH,aI,aJ,aD,aK,aA]),(95,.agg #[.int .i64 a0.p_.Id,.bool a0.p_.Mobile,aE,aB,aF,.int .i64 a0.p_.Events,aG,.int .i64 a0.s_.Id,.int .i64 a0.s_.Frame,.int .i64 a0.s_.Epoch,aC,aH,aI,aJ,aD,aK,aA]),(96,.func (.func 225) [.agg #[.int .i64 a0.p_.Id,.bool a0.p_.Mobile,aE,aB,aF,.int .i64 a0.p_.Events,aG,.int .i64 a0.s_.Id,.int .i64 a0.s_.Frame,.int .i64 a0.s_.Epoch,aC,aH,aI,aJ,aD,aK,aA]].toArray [].toArray),(98,.agg #[.int .i64 a0.p_.Id,.bool a0.p_.Mobile,aE,aB,aF,.int .i64 a0.p_.Events,aG,.int .i64 a0.s_.Id,.int .i64 a0.s_.Frame,.int .i64 a0.s_.Epoch,aC,aH,aI,aJ,aD,aK,aA])] (fun wl=>St NB w wl [blkR bA [.int .i64 a0.p_.Id,.bool a0.p_.Mobile,aE,aB,aF,.int .i64 a0.p_.Events,aG,.int .i64 a0.s_.Id,.int .i64 a0.s_.Frame,.int .i64 a0.s_.Epoch,aC,aH,aI,aJ,aD,aK,aA] 219,blkR bB ((Vector.replicate 17 false).toList.map Value.bool) 217,blkR aM [.int .i64 a0.p_.Id,.bool a0.p_.Mobile,aE,aB,aF,.int .i64 a0.p_.Events,aG] 27,blkR aL [.int .i64 a0.s_.Id,.int .i64 a0.s_.Frame,.int .i64 a0.s_.Epoch,aC,aH,aI,aJ,aD,aK,aA] 34] ∧ bE.heap.size ≤ wl.heap.size ∧ Ext eZ wl) (fun jn=>?_) ?_
  · rcases Bool.eq_false_or_eq_true bX with bJ | bJ
    · replace H:=H.know 55 rfl bJ
      replace hm:=Zu hm bJ
      refine Qq 47 H rfl rfl rfl (Zc rfl Zi9) rfl (by as_aux_lemma=>kernel_rfl) (by as_aux_lemma=>kernel_rfl) (by as_aux_lemma=>kernel_rfl) (by as_aux_lemma=>kernel_rfl) (fun _ _ _ h=>h) ?_;clear H a;intro a H
      refine Wm 48 H rfl rfl rfl (Zf rfl (LdC.old ((aN.blk 3 rfl).ld Zil rfl) (Ext.trans' (Ext.trans' (Ext.trans' (Ext.trans' aZ a9) bD) bM) cT) (Nat.le_refl _) (by simp))) rfl (by as_aux_lemma=>kernel_rfl) (by as_aux_lemma=>kernel_rfl) (by as_aux_lemma=>kernel_rfl) (by as_aux_lemma=>kernel_rfl) (fun _ _ _ h=>h) ?_;clear H a;intro a H
      obtain⟨gK,gL,d8,fL,fM⟩:=SlR.formV (aP.ext (Zi.mono _) hS.x)
      refine Qq 49 H rfl rfl rfl (Qc Tryz.underlying25 rfl d8) rfl (by as_aux_lemma=>kernel_rfl) (by as_aux_lemma=>kernel_rfl) (by as_aux_lemma=>kernel_rfl) (by as_aux_lemma=>kernel_rfl) (fun _ _ _ h=>h) ?_;clear H a;intro a H
      refine Qq 50 H rfl rfl rfl (Zc rfl Zbx) rfl (by as_aux_lemma=>kernel_rfl) (by as_aux_lemma=>kernel_rfl) (by as_aux_lemma=>kernel_rfl) (by as_aux_lemma=>kernel_rfl) (fun _ _ _ h=>h) ?_;clear H a;intro a H
      refine Wm 51 H rfl rfl rfl (Zf rfl (LdC.old ((aN.blk 2 rfl).ld Zil rfl) (Ext.trans' (Ext.trans' (Ext.trans' (Ext.trans' aZ a9) bD) bM) cT) (Nat.le_refl _) (by simp))) rfl (by as_aux_lemma=>kernel_rfl) (by as_aux_lemma=>kernel_rfl) (by as_aux_lemma=>kernel_rfl) (by as_aux_lemma=>kernel_rfl) (fun _ _ _ h=>h) ?_;clear H a;intro a H
      obtain⟨gM,gN,d9,fN,fO⟩:=SlR.formV (aT.ext (Zi.mono _) hS.x)
      refine Qq 52 H rfl rfl rfl (Qc Tryz.underlying25 rfl d9) rfl (by as_aux_lemma=>kernel_rfl) (by as_aux_lemma=>kernel_rfl) (by as_aux_lemma=>kernel_rfl) (by as_aux_lemma=>kernel_rfl) (fun _ _ _ h=>h) ?_;clear H a;intro a H
      refine Qq 53 H rfl rfl rfl (Zgg (i:=a0.s_.Sems.length) (j:=a0.p_.Sems.length) rfl rfl) rfl (by as_aux_lemma=>kernel_rfl) (by as_aux_lemma=>kernel_rfl) (by as_aux_lemma=>kernel_rfl) (by as_aux_lemma=>kernel_rfl) (fun _ _ _ h=>h) ?_;clear H a;intro a H
      refine Zg 54 H rfl (Zx rfl rfl) rfl (by as_aux_lemma=>kernel_rfl) (by as_aux_lemma=>kernel_rfl) (by as_aux_lemma=>kernel_rfl) (by as_aux_lemma=>kernel_rfl) (fun _ _ _ h=>h) ?_;clear H a;intro a H
      obtain rfl:=Option.some.inj hm
      exact jn _ _ _ H ⟨rfl,rfl,rfl,rfl,rfl,rfl,rfl,rfl,rfl,rfl,rfl,rfl,rfl,rfl,rfl,rfl,rfl,rfl,rfl,rfl,rfl,rfl,rfl,rfl,rfl,rfl,rfl,rfl,rfl,rfl,rfl,rfl,rfl,rfl,rfl,rfl,rfl,rfl,rfl,rfl,rfl,rfl,rfl,rfl,rfl,trivial⟩ ⟨hS,hW,Ext.rfl'⟩
    replace H:=H.know 55 rfl bJ
    replace hm:=Zv hm bJ
    refine Jg 47 H rfl rfl rfl (by decide) rfl (by as_aux_lemma=>kernel_rfl) (by as_aux_lemma=>kernel_rfl) (by as_aux_lemma=>kernel_rfl) (by as_aux_lemma=>kernel_rfl) (fun _ _ _ h=>h) ?_;clear H a;intro a H
    refine Jg 48 H rfl rfl rfl (by decide) rfl (by as_aux_lemma=>kernel_rfl) (by as_aux_lemma=>kernel_rfl) (by as_aux_lemma=>kernel_rfl) (by as_aux_lemma=>kernel_rfl) (fun _ _ _ h=>h) ?_;clear H a;intro a H
    refine Jg 49 H rfl rfl rfl (by decide) rfl (by as_aux_lemma=>kernel_rfl) (by as_aux_lemma=>kernel_rfl) (by as_aux_lemma=>kernel_rfl) (by as_aux_lemma=>kernel_rfl) (fun _ _ _ h=>h) ?_;clear H a;intro a H
    refine Jg 50 H rfl rfl rfl (by decide) rfl (by as_aux_lemma=>kernel_rfl) (by as_aux_lemma=>kernel_rfl) (by as_aux_lemma=>kernel_rfl) (by as_aux_lemma=>kernel_rfl) (fun _ _ _ h=>h) ?_;clear H a;intro a H
    refine Jg 51 H rfl rfl rfl (by decide) rfl (by as_aux_lemma=>kernel_rfl) (by as_aux_lemma=>kernel_rfl) (by as_aux_lemma=>kernel_rfl) (by as_aux_lemma=>kernel_rfl) (fun _ _ _ h=>h) ?_;clear H a;intro a H
    refine Jg 52 H rfl rfl rfl (by decide) rfl (by as_aux_lemma=>kernel_rfl) (by as_aux_lemma=>kernel_rfl) (by as_aux_lemma=>kernel_rfl) (by as_aux_lemma=>kernel_rfl) (fun _ _ _ h=>h) ?_;clear H a;intro a H
    refine Jg 53 H rfl rfl rfl (by decide) rfl (by as_aux_lemma=>kernel_rfl) (by as_aux_lemma=>kernel_rfl) (by as_aux_lemma=>kernel_rfl) (by as_aux_lemma=>kernel_rfl) (fun _ _ _ h=>h) ?_;clear H a;intro a H
    refine Zg 54 H rfl (Zt rfl rfl) rfl (by as_aux_lemma=>kernel_rfl) (by as_aux_lemma=>kernel_rfl) (by as_aux_lemma=>kernel_rfl) (by as_aux_lemma=>kernel_rfl) (fun _ _ _ h=>h) ?_;clear H a;intro a H
    obtain rfl:=Option.some.inj hm
    exact jn _ _ _ H ⟨rfl,rfl,rfl,rfl,rfl,rfl,rfl,rfl,rfl,rfl,rfl,rfl,rfl,rfl,rfl,rfl,rfl,rfl,rfl,rfl,rfl,rfl,rfl,rfl,rfl,rfl,rfl,rfl,rfl,rfl,rfl,rfl,rfl,rfl,rfl,rfl,rfl,rfl,rfl,rfl,rfl,rfl,rfl,rfl,rfl,trivial⟩ ⟨hS,hW,Ext.rfl'⟩
  clear H hS hm hW a;intro a gO H hR;simp only [ent,List.map_cons,List.map_nil] at H;obtain⟨hS,hW,fP⟩:=hR;have hm:=d7
  replace hm:=Zj hm;obtain⟨bY,eA,hm⟩:=hm
  refine Qy 56 (by as_aux_lemma=>kernel_rfl) ?_
  refine Xg 56 H rfl rfl Zon (Kp (A:=A) (⟨_,_,_,_,_,_,_,_,_,_,_,rfl,(aQ.ext (Zi.mono _) hS.x),(aR.ext (Zi.mono _) hS.x),(aS.ext (Zi.mono _) hS.x),(aT.ext (Zi.mono _) hS.x),(aU.ext (Zi.mono _) hS.x),(aX.ext (Zi.mono _) hS.x),(aY.ext (Zi.mono _) hS.x),(aV.ext (Zi.mono _) hS.x),(aP.ext (Zi.mono _) hS.x),(aW.ext Qe.mono hS.x),(aO.ext (Zi.mono _) hS.x)⟩ : Qj _ [.int .i64 a0.p_.Id,.bool a0.p_.Mobile,aE,aB,aF,.int .i64 a0.p_.Events,aG,.int .i64 a0.s_.Id,.int .i64 a0.s_.Frame,.int .i64 a0.s_.Epoch,aC,aH,aI,aJ,aD,aK,aA] a0) (g1:=208) (fs1:=[]) (cp1:=[]) (a1:=(fun x0=>Uw x0)) en208 (fun w1 e1 x0 r hr=>Zf6 (A:=A) hr) eA) rfl (fun v w hv=>.inl (ChgF.of_ext (by obtain⟨_,hE0⟩:=hv;exact hE0))) ?_
  clear H;intro gP gQ hv;clear a;intro a H;obtain⟨rfl,cU⟩:=hv
  replace hS:=hS.ext cU
  replace hW:=Nat.le_trans hW cU.size
  replace hm:=Zj hm;obtain⟨bZ,eC,hm⟩:=hm
  refine Qy 58 (by as_aux_lemma=>kernel_rfl) ?_
  refine Xg 58 H rfl rfl Zon (Kp (A:=A) (⟨_,_,_,_,_,_,_,_,_,_,_,rfl,(aQ.ext (Zi.mono _) hS.x),(aR.ext (Zi.mono _) hS.x),(aS.ext (Zi.mono _) hS.x),(aT.ext (Zi.mono _) hS.x),(aU.ext (Zi.mono _) hS.x),(aX.ext (Zi.mono _) hS.x),(aY.ext (Zi.mono _) hS.x),(aV.ext (Zi.mono _) hS.x),(aP.ext (Zi.mono _) hS.x),(aW.ext Qe.mono hS.x),(aO.ext (Zi.mono _) hS.x)⟩ : Qj _ [.int .i64 a0.p_.Id,.bool a0.p_.Mobile,aE,aB,aF,.int .i64 a0.p_.Events,aG,.int .i64 a0.s_.Id,.int .i64 a0.s_.Frame,.int .i64 a0.s_.Epoch,aC,aH,aI,aJ,aD,aK,aA] a0) (g1:=209) (fs1:=[]) (cp1:=[]) (a1:=(fun x0=>Yw x0)) en209 (fun w1 e1 x0 r hr=>Zcz (A:=A) hr) eC) rfl (fun v w hv=>.inl (ChgF.of_ext (by obtain⟨_,hE0⟩:=hv;exact hE0))) ?_
  clear H;intro gR gS hv;clear a;intro a H;obtain⟨rfl,cV⟩:=hv
  replace hS:=hS.ext cV
  replace hW:=Nat.le_trans hW cV.size
  replace hm:=Zj hm;obtain⟨b6,eD,hm⟩:=hm
  refine Qy 62 (by as_aux_lemma=>kernel_rfl) ?_
  refine Xg 62 H rfl rfl Zon (Kp (A:=A) (⟨_,_,_,_,_,_,_,_,_,_,_,rfl,(aQ.ext (Zi.mono _) hS.x),(aR.ext (Zi.mono _) hS.x),(aS.ext (Zi.mono _) hS.x),(aT.ext (Zi.mono _) hS.x),(aU.ext (Zi.mono _) hS.x),(aX.ext (Zi.mono _) hS.x),(aY.ext (Zi.mono _) hS.x),(aV.ext (Zi.mono _) hS.x),(aP.ext (Zi.mono _) hS.x),(aW.ext Qe.mono hS.x),(aO.ext (Zi.mono _) hS.x)⟩ : Qj _ [.int .i64 a0.p_.Id,.bool a0.p_.Mobile,aE,aB,aF,.int .i64 a0.p_.Events,aG,.int .i64 a0.s_.Id,.int .i64 a0.s_.Frame,.int .i64 a0.s_.Epoch,aC,aH,aI,aJ,aD,aK,aA] a0) (g1:=210) (fs1:=[.agg #[.int .i64 a0.p_.Id,.bool a0.p_.Mobile,aE,aB,aF,.int .i64 a0.p_.Events,aG,.int .i64 a0.s_.Id,.int .i64 a0.s_.Frame,.int .i64 a0.s_.Epoch,aC,aH,aI,aJ,aD,aK,aA]]) (cp1:=[]) (a1:=(fun x0=>Ya a0 x0)) en210 (fun w1 e1 x0 r hr=>Zdc (A:=A) (⟨_,_,_,_,_,_,_,_,_,_,_,rfl,((aQ.ext (Zi.mono _) hS.x).ext (Zi.mono _) e1),((aR.ext (Zi.mono _) hS.x).ext (Zi.mono _) e1),((aS.ext (Zi.mono _) hS.x).ext (Zi.mono _) e1),((aT.ext (Zi.mono _) hS.x).ext (Zi.mono _) e1),((aU.ext (Zi.mono _) hS.x).ext (Zi.mono _) e1),((aX.ext (Zi.mono _) hS.x).ext (Zi.mono _) e1),((aY.ext (Zi.mono _) hS.x).ext (Zi.mono _) e1),((aV.ext (Zi.mono _) hS.x).ext (Zi.mono _) e1),((aP.ext (Zi.mono _) hS.x).ext (Zi.mono _) e1),((aW.ext Qe.mono hS.x).ext Qe.mono e1),((aO.ext (Zi.mono _) hS.x).ext (Zi.mono _) e1)⟩ : Qj _ [.int .i64 a0.p_.Id,.bool a0.p_.Mobile,aE,aB,aF,.int .i64 a0.p_.Events,aG,.int .i64 a0.s_.Id,.int .i64 a0.s_.Frame,.int .i64 a0.s_.Epoch,aC,aH,aI,aJ,aD,aK,aA] a0) hr) eD) rfl (fun v w hv=>.inl (ChgF.of_ext (by obtain⟨_,hE0⟩:=hv;exact hE0))) ?_
  clear H;intro gT gU hv;clear a;intro a H;obtain⟨rfl,cW⟩:=hv
  replace hS:=hS.ext cW
  replace hW:=Nat.le_trans hW cW.size
  replace hm:=Zj hm;obtain⟨b7,eE,hm⟩:=hm
  refine Qy 64 (by as_aux_lemma=>kernel_rfl) ?_
  refine Xg 64 H rfl rfl en211 (Zdw (A:=A) (⟨_,_,_,_,_,_,_,_,_,_,_,rfl,(aQ.ext (Zi.mono _) hS.x),(aR.ext (Zi.mono _) hS.x),(aS.ext (Zi.mono _) hS.x),(aT.ext (Zi.mono _) hS.x),(aU.ext (Zi.mono _) hS.x),(aX.ext (Zi.mono _) hS.x),(aY.ext (Zi.mono _) hS.x),(aV.ext (Zi.mono _) hS.x),(aP.ext (Zi.mono _) hS.x),(aW.ext Qe.mono hS.x),(aO.ext (Zi.mono _) hS.x)⟩ : Qj _ [.int .i64 a0.p_.Id,.bool a0.p_.Mobile,aE,aB,aF,.int .i64 a0.p_.Events,aG,.int .i64 a0.s_.Id,.int .i64 a0.s_.Frame,.int .i64 a0.s_.Epoch,aC,aH,aI,aJ,aD,aK,aA] a0) eE) rfl (fun v w hv=>.inl (ChgF.of_ext (by obtain⟨_,hE0⟩:=hv;exact hE0))) ?_
  clear H;intro gV gW hv;clear a;intro a H;obtain⟨rfl,cX⟩:=hv
  replace hS:=hS.ext cX
  replace hW:=Nat.le_trans hW cX.size
  replace hm:=Zj hm;obtain⟨b8,eG,hm⟩:=hm
  refine Qy 66 (by as_aux_lemma=>kernel_rfl) ?_
  refine Xg 66 H rfl rfl en212 (Zeg (A:=A) (⟨_,_,_,_,_,_,_,_,_,_,_,rfl,(aQ.ext (Zi.mono _) hS.x),(aR.ext (Zi.mono _) hS.x),(aS.ext (Zi.mono _) hS.x),(aT.ext (Zi.mono _) hS.x),(aU.ext (Zi.mono _) hS.x),(aX.ext (Zi.mono _) hS.x),(aY.ext (Zi.mono _) hS.x),(aV.ext (Zi.mono _) hS.x),(aP.ext (Zi.mono _) hS.x),(aW.ext Qe.mono hS.x),(aO.ext (Zi.mono _) hS.x)⟩ : Qj _ [.int .i64 a0.p_.Id,.bool a0.p_.Mobile,aE,aB,aF,.int .i64 a0.p_.Events,aG,.int .i64 a0.s_.Id,.int .i64 a0.s_.Frame,.int .i64 a0.s_.Epoch,aC,aH,aI,aJ,aD,aK,aA] a0) eG) rfl (fun v w hv=>.inl (ChgF.of_ext (by obtain⟨_,hE0⟩:=hv;exact hE0))) ?_
  clear H;intro gX gY hv;clear a;intro a H;obtain⟨rfl,cY⟩:=hv
  replace hS:=hS.ext cY
  replace hW:=Nat.le_trans hW cY.size
  replace hm:=Zj hm;obtain⟨b9,eH,hm⟩:=hm
  refine Qy 68 (by as_aux_lemma=>kernel_rfl) ?_
  refine Xg 68 H rfl rfl en213 (Zdx (A:=A) (⟨_,_,_,_,_,_,_,_,_,_,_,rfl,(aQ.ext (Zi.mono _) hS.x),(aR.ext (Zi.mono _) hS.x),(aS.ext (Zi.mono _) hS.x),(aT.ext (Zi.mono _) hS.x),(aU.ext (Zi.mono _) hS.x),(aX.ext (Zi.mono _) hS.x),(aY.ext (Zi.mono _) hS.x),(aV.ext (Zi.mono _) hS.x),(aP.ext (Zi.mono _) hS.x),(aW.ext Qe.mono hS.x),(aO.ext (Zi.mono _) hS.x)⟩ : Qj _ [.int .i64 a0.p_.Id,.bool a0.p_.Mobile,aE,aB,aF,.int .i64 a0.p_.Events,aG,.int .i64 a0.s_.Id,.int .i64 a0.s_.Frame,.int .i64 a0.s_.Epoch,aC,aH,aI,aJ,aD,aK,aA] a0) eH) rfl (fun v w hv=>.inl (ChgF.of_ext (by obtain⟨_,hE0⟩:=hv;exact hE0))) ?_
  clear H;intro gZ g6 hv;clear a;intro a H;obtain⟨rfl,cZ⟩:=hv
  replace hS:=hS.ext cZ
  replace hW:=Nat.le_trans hW cZ.size
  replace hm:=Zj hm;obtain⟨cA,eJ,hm⟩:=hm
  refine Qy 71 (by as_aux_lemma=>kernel_rfl) ?_
  refine Xg 71 H rfl rfl en214 (Zbr (A:=A) (aP.ext (Zi.mono _) hS.x) (g1:=215) (fs1:=[]) (cp1:=[]) (a1:=(fun x0=>Yx x0)) en215 (fun w1 e1 x0 r hr=>Zc0 (A:=A) hr) eJ) rfl (fun v w hv=>.inl (ChgF.of_ext (by obtain⟨_,hE0⟩:=hv;exact hE0))) ?_
  clear H;intro g7 g8 hv;clear a;intro a H;obtain⟨rfl,c7⟩:=hv
  replace hS:=hS.ext c7
  replace hW:=Nat.le_trans hW c7.size
  refine Zg 72 H rfl (Zb1 rfl) rfl (by as_aux_lemma=>kernel_rfl) (by as_aux_lemma=>kernel_rfl) (by as_aux_lemma=>kernel_rfl) (by as_aux_lemma=>kernel_rfl) (fun _ _ _ h=>h) ?_;clear H a;intro a H
  replace hm:=Zj hm;obtain⟨cB,eK,hm⟩:=hm
  refine Qy 74 (by as_aux_lemma=>kernel_rfl) ?_
  refine Xg 74 H rfl rfl Zt5 (Hm (A:=A) (⟨_,_,_,_,_,_,_,_,_,_,_,rfl,(aQ.ext (Zi.mono _) hS.x),(aR.ext (Zi.mono _) hS.x),(aS.ext (Zi.mono _) hS.x),(aT.ext (Zi.mono _) hS.x),(aU.ext (Zi.mono _) hS.x),(aX.ext (Zi.mono _) hS.x),(aY.ext (Zi.mono _) hS.x),(aV.ext (Zi.mono _) hS.x),(aP.ext (Zi.mono _) hS.x),(aW.ext Qe.mono hS.x),(aO.ext (Zi.mono _) hS.x)⟩ : Qj _ [.int .i64 a0.p_.Id,.bool a0.p_.Mobile,aE,aB,aF,.int .i64 a0.p_.Events,aG,.int .i64 a0.s_.Id,.int .i64 a0.s_.Frame,.int .i64 a0.s_.Epoch,aC,aH,aI,aJ,aD,aK,aA] a0) (g1:=217) (fs1:=[]) (cp1:=[]) (a1:=(fun x0 x1=>Kj x0 x1)) en217 (fun w1 e1 x0 ds1 x1 r hd1 hr=>Zc1 (A:=A) hd1 hr) eK) rfl (fun v w hv=>.inl (ChgF.of_ext (by obtain⟨_,hE0⟩:=hv;exact hE0))) ?_
  clear H;intro g9 hH hv;clear a;intro a H;obtain⟨rfl,c9⟩:=hv
  replace hS:=hS.ext c9
  replace hW:=Nat.le_trans hW c9.size
  replace hm:=Zj hm;obtain⟨cC,eL,hm⟩:=hm
  refine Qy 76 (by as_aux_lemma=>kernel_rfl) ?_
  refine Xg 76 H rfl rfl Zt5 (Hm (A:=A) (⟨_,_,_,_,_,_,_,_,_,_,_,rfl,(aQ.ext (Zi.mono _) hS.x),(aR.ext (Zi.mono _) hS.x),(aS.ext (Zi.mono _) hS.x),(aT.ext (Zi.mono _) hS.x),(aU.ext (Zi.mono _) hS.x),(aX.ext (Zi.mono _) hS.x),(aY.ext (Zi.mono _) hS.x),(aV.ext (Zi.mono _) hS.x),(aP.ext (Zi.mono _) hS.x),(aW.ext Qe.mono hS.x),(aO.ext (Zi.mono _) hS.x)⟩ : Qj _ [.int .i64 a0.p_.Id,.bool a0.p_.Mobile,aE,aB,aF,.int .i64 a0.p_.Events,aG,.int .i64 a0.s_.Id,.int .i64 a0.s_.Frame,.int .i64 a0.s_.Epoch,aC,aH,aI,aJ,aD,aK,aA] a0) (g1:=220) (fs1:=[]) (cp1:=[]) (a1:=(fun x0 x1=>Kk x0 x1)) en220 (fun w1 e1 x0 ds1 x1 r hd1 hr=>Zc2 (A:=A) hd1 hr) eL) rfl (fun v w hv=>.inl (ChgF.of_ext (by obtain⟨_,hE0⟩:=hv;exact hE0))) ?_
  clear H;intro hJ hU hv;clear a;intro a H;obtain⟨rfl,dA⟩:=hv
  replace hS:=hS.ext dA
  replace hW:=Nat.le_trans hW dA.size
  replace hm:=Zj hm;obtain⟨cD,eM,hm⟩:=hm
  refine Qy 78 (by as_aux_lemma=>kernel_rfl) ?_
  refine Xg 78 H rfl rfl en221 (Zdd (A:=A) (⟨_,_,_,_,_,_,_,_,_,_,_,rfl,(aQ.ext (Zi.mono _) hS.x),(aR.ext (Zi.mono _) hS.x),(aS.ext (Zi.mono _) hS.x),(aT.ext (Zi.mono _) hS.x),(aU.ext (Zi.mono _) hS.x),(aX.ext (Zi.mono _) hS.x),(aY.ext (Zi.mono _) hS.x),(aV.ext (Zi.mono _) hS.x),(aP.ext (Zi.mono _) hS.x),(aW.ext Qe.mono hS.x),(aO.ext (Zi.mono _) hS.x)⟩ : Qj _ [.int .i64 a0.p_.Id,.bool a0.p_.Mobile,aE,aB,aF,.int .i64 a0.p_.Events,aG,.int .i64 a0.s_.Id,.int .i64 a0.s_.Frame,.int .i64 a0.s_.Epoch,aC,aH,aI,aJ,aD,aK,aA] a0) eM) rfl (fun v w hv=>.inl (ChgF.of_ext (by obtain⟨_,hE0⟩:=hv;exact hE0))) ?_
  clear H;intro hY hZ hv;clear a;intro a H;obtain⟨rfl,dB⟩:=hv
  replace hS:=hS.ext dB
  replace hW:=Nat.le_trans hW dB.size
  replace hm:=Zj hm;obtain⟨cF,eN,hm⟩:=hm
  refine Qy 81 (by as_aux_lemma=>kernel_rfl) ?_
  refine Xg 81 H rfl rfl Zon (Kp (A:=A) (⟨_,_,_,_,_,_,_,_,_,_,_,rfl,(aQ.ext (Zi.mono _) hS.x),(aR.ext (Zi.mono _) hS.x),(aS.ext (Zi.mono _) hS.x),(aT.ext (Zi.mono _) hS.x),(aU.ext (Zi.mono _) hS.x),(aX.ext (Zi.mono _) hS.x),(aY.ext (Zi.mono _) hS.x),(aV.ext (Zi.mono _) hS.x),(aP.ext (Zi.mono _) hS.x),(aW.ext Qe.mono hS.x),(aO.ext (Zi.mono _) hS.x)⟩ : Qj _ [.int .i64 a0.p_.Id,.bool a0.p_.Mobile,aE,aB,aF,.int .i64 a0.p_.Events,aG,.int .i64 a0.s_.Id,.int .i64 a0.s_.Frame,.int .i64 a0.s_.Epoch,aC,aH,aI,aJ,aD,aK,aA] a0) (g1:=222) (fs1:=[]) (cp1:=[.pointer (some ⟨aL,0,none⟩),.pointer (some ⟨aM,0,none⟩)]) (a1:=(fun x0=>Kl x0 a0.s_ a0.p_)) en222 (fun w1 e1 x0 r hr=>Zc3 (A:=A) ((hS.blk 3 rfl).ext e1) (⟨_,_,_,_,_,_,_,rfl,((aU.ext (Zi.mono _) hS.x).ext (Zi.mono _) e1),((aX.ext (Zi.mono _) hS.x).ext (Zi.mono _) e1),((aY.ext (Zi.mono _) hS.x).ext (Zi.mono _) e1),((aV.ext (Zi.mono _) hS.x).ext (Zi.mono _) e1),((aP.ext (Zi.mono _) hS.x).ext (Zi.mono _) e1),((aW.ext Qe.mono hS.x).ext Qe.mono e1),((aO.ext (Zi.mono _) hS.x).ext (Zi.mono _) e1)⟩ : Hg _ [.int .i64 a0.s_.Id,.int .i64 a0.s_.Frame,.int .i64 a0.s_.Epoch,aC,aH,aI,aJ,aD,aK,aA] a0.s_) ((hS.blk 2 rfl).ext e1) (⟨_,_,_,_,rfl,((aQ.ext (Zi.mono _) hS.x).ext (Zi.mono _) e1),((aR.ext (Zi.mono _) hS.x).ext (Zi.mono _) e1),((aS.ext (Zi.mono _) hS.x).ext (Zi.mono _) e1),((aT.ext (Zi.mono _) hS.x).ext (Zi.mono _) e1)⟩ : Xa _ [.int .i64 a0.p_.Id,.bool a0.p_.Mobile,aE,aB,aF,.int .i64 a0.p_.Events,aG] a0.p_) hr) eN) rfl (fun v w hv=>.inl (ChgF.of_ext (by obtain⟨_,hE0⟩:=hv;exact hE0))) ?_
  clear H;intro iA iB hv;clear a;intro a H;obtain⟨rfl,dC⟩:=hv
  replace hS:=hS.ext dC
  replace hW:=Nat.le_trans hW dC.size
  replace hm:=Zj hm;obtain⟨cG,eO,hm⟩:=hm
  refine Qy 84 (by as_aux_lemma=>kernel_rfl) ?_
  refine Xg 84 H rfl rfl Zon (Kp (A:=A) (⟨_,_,_,_,_,_,_,_,_,_,_,rfl,(aQ.ext (Zi.mono _) hS.x),(aR.ext (Zi.mono _) hS.x),(aS.ext (Zi.mono _) hS.x),(aT.ext (Zi.mono _) hS.x),(aU.ext (Zi.mono _) hS.x),(aX.ext (Zi.mono _) hS.x),(aY.ext (Zi.mono _) hS.x),(aV.ext (Zi.mono _) hS.x),(aP.ext (Zi.mono _) hS.x),(aW.ext Qe.mono hS.x),(aO.ext (Zi.mono _) hS.x)⟩ : Qj _ [.int .i64 a0.p_.Id,.bool a0.p_.Mobile,aE,aB,aF,.int .i64 a0.p_.Events,aG,.int .i64 a0.s_.Id,.int .i64 a0.s_.Frame,.int .i64 a0.s_.Epoch,aC,aH,aI,aJ,aD,aK,aA] a0) (g1:=224) (fs1:=[]) (cp1:=[.pointer (some ⟨aL,0,none⟩),.pointer (some ⟨aM,0,none⟩)]) (a1:=(fun x0=>Km x0 a0.s_ a0.p_)) en224 (fun w1 e1 x0 r hr=>Zc4 (A:=A) ((hS.blk 3 rfl).ext e1) (⟨_,_,_,_,_,_,_,rfl,((aU.ext (Zi.mono _) hS.x).ext (Zi.mono _) e1),((aX.ext (Zi.mono _) hS.x).ext (Zi.mono _) e1),((aY.ext (Zi.mono _) hS.x).ext (Zi.mono _) e1),((aV.ext (Zi.mono _) hS.x).ext (Zi.mono _) e1),((aP.ext (Zi.mono _) hS.x).ext (Zi.mono _) e1),((aW.ext Qe.mono hS.x).ext Qe.mono e1),((aO.ext (Zi.mono _) hS.x).ext (Zi.mono _) e1)⟩ : Hg _ [.int .i64 a0.s_.Id,.int .i64 a0.s_.Frame,.int .i64 a0.s_.Epoch,aC,aH,aI,aJ,aD,aK,aA] a0.s_) ((hS.blk 2 rfl).ext e1) (⟨_,_,_,_,rfl,((aQ.ext (Zi.mono _) hS.x).ext (Zi.mono _) e1),((aR.ext (Zi.mono _) hS.x).ext (Zi.mono _) e1),((aS.ext (Zi.mono _) hS.x).ext (Zi.mono _) e1),((aT.ext (Zi.mono _) hS.x).ext (Zi.mono _) e1)⟩ : Xa _ [.int .i64 a0.p_.Id,.bool a0.p_.Mobile,aE,aB,aF,.int .i64 a0.p_.Events,aG] a0.p_) hr) eO) rfl (fun v w hv=>.inl (ChgF.of_ext (by obtain⟨_,hE0⟩:=hv;exact hE0))) ?_
  clear H;intro iC iD hv;clear a;intro a H;obtain⟨rfl,dD⟩:=hv
  replace hS:=hS.ext dD
  replace hW:=Nat.le_trans hW dD.size
  replace hm:=Zj hm;obtain⟨cH,eP,hm⟩:=hm
  refine Qy 88 (by as_aux_lemma=>kernel_rfl) ?_
  refine Xg 88 H rfl rfl Zon (Kp (A:=A) (⟨_,_,_,_,_,_,_,_,_,_,_,rfl,(aQ.ext (Zi.mono _) hS.x),(aR.ext (Zi.mono _) hS.x),(aS.ext (Zi.mono _) hS.x),(aT.ext (Zi.mono _) hS.x),(aU.ext (Zi.mono _) hS.x),(aX.ext (Zi.mono _) hS.x),(aY.ext (Zi.mono _) hS.x),(aV.ext (Zi.mono _) hS.x),(aP.ext (Zi.mono _) hS.x),(aW.ext Qe.mono hS.x),(aO.ext (Zi.mono _) hS.x)⟩ : Qj _ [.int .i64 a0.p_.Id,.bool a0.p_.Mobile,aE,aB,aF,.int .i64 a0.p_.Events,aG,.int .i64 a0.s_.Id,.int .i64 a0.s_.Frame,.int .i64 a0.s_.Epoch,aC,aH,aI,aJ,aD,aK,aA] a0) (g1:=225) (fs1:=[.agg #[.int .i64 a0.p_.Id,.bool a0.p_.Mobile,aE,aB,aF,.int .i64 a0.p_.Events,aG,.int .i64 a0.s_.Id,.int .i64 a0.s_.Frame,.int .i64 a0.s_.Epoch,aC,aH,aI,aJ,aD,aK,aA]]) (cp1:=[]) (a1:=(fun x0=>Yb a0 x0)) en225 (fun w1 e1 x0 r hr=>Zde (A:=A) (⟨_,_,_,_,_,_,_,_,_,_,_,rfl,((aQ.ext (Zi.mono _) hS.x).ext (Zi.mono _) e1),((aR.ext (Zi.mono _) hS.x).ext (Zi.mono _) e1),((aS.ext (Zi.mono _) hS.x).ext (Zi.mono _) e1),((aT.ext (Zi.mono _) hS.x).ext (Zi.mono _) e1),((aU.ext (Zi.mono _) hS.x).ext (Zi.mono _) e1),((aX.ext (Zi.mono _) hS.x).ext (Zi.mono _) e1),((aY.ext (Zi.mono _) hS.x).ext (Zi.mono _) e1),((aV.ext (Zi.mono _) hS.x).ext (Zi.mono _) e1),((aP.ext (Zi.mono _) hS.x).ext (Zi.mono _) e1),((aW.ext Qe.mono hS.x).ext Qe.mono e1),((aO.ext (Zi.mono _) hS.x).ext (Zi.mono _) e1)⟩ : Qj _ [.int .i64 a0.p_.Id,.bool a0.p_.Mobile,aE,aB,aF,.int .i64 a0.p_.Events,aG,.int .i64 a0.s_.Id,.int .i64 a0.s_.Frame,.int .i64 a0.s_.Epoch,aC,aH,aI,aJ,aD,aK,aA] a0) hr) eP) rfl (fun v w hv=>.inl (ChgF.of_ext (by obtain⟨_,hE0⟩:=hv;exact hE0))) ?_
  clear H;intro iE iF hv;clear a;intro a H;obtain⟨rfl,dE⟩:=hv
  replace hS:=hS.ext dE
  replace hW:=Nat.le_trans hW dE.size
  replace hm:=Zj hm;obtain⟨cI,eQ,hm⟩:=hm
  refine Qy 90 (by as_aux_lemma=>kernel_rfl) ?_
  refine Xg 90 H rfl rfl Zt5 (Hm (A:=A) (⟨_,_,_,_,_,_,_,_,_,_,_,rfl,(aQ.ext (Zi.mono _) hS.x),(aR.ext (Zi.mono _) hS.x),(aS.ext (Zi.mono _) hS.x),(aT.ext (Zi.mono _) hS.x),(aU.ext (Zi.mono _) hS.x),(aX.ext (Zi.mono _) hS.x),(aY.ext (Zi.mono _) hS.x),(aV.ext (Zi.mono _) hS.x),(aP.ext (Zi.mono _) hS.x),(aW.ext Qe.mono hS.x),(aO.ext (Zi.mono _) hS.x)⟩ : Qj _ [.int .i64 a0.p_.Id,.bool a0.p_.Mobile,aE,aB,aF,.int .i64 a0.p_.Events,aG,.int .i64 a0.s_.Id,.int .i64 a0.s_.Frame,.int .i64 a0.s_.Epoch,aC,aH,aI,aJ,aD,aK,aA] a0) (g1:=226) (fs1:=[]) (cp1:=[]) (a1:=(fun x0 x1=>Kn x0 x1)) en226 (fun w1 e1 x0 ds1 x1 r hd1 hr=>Zc5 (A:=A) hd1 hr) eQ) rfl (fun v w hv=>.inl (ChgF.of_ext (by obtain⟨_,hE0⟩:=hv;exact hE0))) ?_
  clear H;intro iG iH hv;clear a;intro a H;obtain⟨rfl,dF⟩:=hv
  replace hS:=hS.ext dF
  replace hW:=Nat.le_trans hW dF.size
  refine Zg 91 H rfl (Zi5 (cs:=[.bool (decide (a0.s_.Id=a0.p_.Id)),.bool bC,.bool bS,.bool bY,.bool bZ,.bool b6,.bool b7,.bool b8,.bool b9,.bool (!cA),.bool cB,.bool cC,.bool cD,.bool cF,.bool cG,.bool cH,.bool cI]) Tryz.underlying217 sz4 ze217 rfl (by as_aux_lemma=>kernel_rfl)) rfl (by as_aux_lemma=>kernel_rfl) (by as_aux_lemma=>kernel_rfl) (by as_aux_lemma=>kernel_rfl) (by as_aux_lemma=>kernel_rfl) (fun _ _ _ h=>h) ?_;clear H a;intro a H
  replace hS:=hS.pk1
  refine Qg 92 H rfl rfl rfl (vs:=((#v[decide (a0.s_.Id=a0.p_.Id),bC,bS,bY,bZ,b6,b7,b8,b9,(!cA),cB,cC,cD,cF,cG,cH,cI]).toList.map Value.bool)) rfl (sz217.trans (by simp)) (hS.blk 0 rfl) (by simp) (by simp) (by as_aux_lemma=>kernel_rfl) (.inr (by as_aux_lemma=>kernel_rfl)) ?_
  clear H;intro iI hN dG hz;clear a;intro a H;replace hS:=hS.setBlk hN dG;clear hN hz;replace hW:=Nat.le_trans hW dG.size
  refine Xc (by as_aux_lemma=>kernel_rfl) ?_
  refine Za (wp_ret ?_)
  obtain rfl:=Option.some.inj hm
  replace hS:=hS.tk1
  refine Zhd H (.inr rfl) rfl (vs:=[.agg ((#v[decide (a0.s_.Id=a0.p_.Id),bC,bS,bY,bZ,b6,b7,b8,b9,(!cA),cB,cC,cD,cF,cG,cH,cI]).toList.map Value.bool).toArray]) (He rfl ((hS.blk 0 rfl).ldAll ag217 (sz217.trans (by simp))) Hd) ?_
  replace hS:=hS.tk0
  exact⟨rfl,hS.x⟩
end Go.Proofs.YtfemfiiagjnhdaaGreatDoor
