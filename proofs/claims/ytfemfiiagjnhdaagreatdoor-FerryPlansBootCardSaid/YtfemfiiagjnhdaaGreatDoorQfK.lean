/- Part of a claim, shortened by a program from its texts: TopLPt. -/
import Derived.Test.YtfemfiiagjnhdaaGreatDoorQfJ
set_option linter.unusedVariables false
set_option linter.unusedSimpArgs false
set_option linter.unusedSectionVars false
namespace Go.Proofs.YtfemfiiagjnhdaaGreatDoor
open Go Go.RowKit
def Zbg (a b c d : Int) : ByteArray:=Zge [(Qz a),(Qz (IntKind.i64.wrap ((IntKind.i64.wrap (b * 16)) + c))),(Qz (IntKind.i64.wrap (Int.tdiv (Zdl .i64 d 65535) 256))),(Qz (Int.tmod (Zdl .i64 d 65535) 256))]
def topC : ByteArray:=Zbg 16 4 0 7 ++ Zbg 37 4 0 64 ++ Zbg 16 1 0 0 ++ Zbg 16 2 0 64 ++ Zbg 16 3 0 1 ++ Zbg 64 0 0 13 ++ Zbg 16 1 0 41 ++ Zbg 64 0 0 3 ++ Zbg 48 0 0 (-9)
def topP : GPlan:=⟨0,true,[(⟨5,topC⟩ : GPagePlan),(⟨3,⟨#[]⟩⟩ : GPagePlan)],[(⟨0,1,true⟩ : GProcPlan)],[(⟨2,1,1,0⟩ : GPortPlan)],0,[]⟩
theorem Tx (a b c d : Int) : (Zbg a b c d).size=4:=rfl
theorem Zq1 : Zac=some topP:=by
  have e : ∀ a b c d,Ub a b c d=some (Zbg a b c d):=fun _ _ _ _=>rfl
  have c : ∀ x y : ByteArray,x.size ≤ 100 → y.size ≤ 100 → x.size + y.size ≤ 9223372036854775807:=fun x y h1 h2=>by omega
  have s1 : (Zbg 16 4 0 7).size ≤ 100:=by simp [ByteArray.size_append,Tx]
  have s2 : (Zbg 16 4 0 7 ++ Zbg 37 4 0 64).size ≤ 100:=by simp [ByteArray.size_append,Tx]
  have s3 : (Zbg 16 4 0 7 ++ Zbg 37 4 0 64 ++ Zbg 16 1 0 0).size ≤ 100:=by simp [ByteArray.size_append,Tx]
  have s4 : (Zbg 16 4 0 7 ++ Zbg 37 4 0 64 ++ Zbg 16 1 0 0 ++ Zbg 16 2 0 64).size ≤ 100:=by simp [ByteArray.size_append,Tx]
  have s5 : (Zbg 16 4 0 7 ++ Zbg 37 4 0 64 ++ Zbg 16 1 0 0 ++ Zbg 16 2 0 64 ++ Zbg 16 3 0 1).size ≤ 100:=by simp [ByteArray.size_append,Tx]
  have s6 : (Zbg 16 4 0 7 ++ Zbg 37 4 0 64 ++ Zbg 16 1 0 0 ++ Zbg 16 2 0 64 ++ Zbg 16 3 0 1 ++ Zbg 64 0 0 13).size ≤ 100:=by simp [ByteArray.size_append,Tx]
  have s7 : (Zbg 16 4 0 7 ++ Zbg 37 4 0 64 ++ Zbg 16 1 0 0 ++ Zbg 16 2 0 64 ++ Zbg 16 3 0 1 ++ Zbg 64 0 0 13 ++ Zbg 16 1 0 41).size ≤ 100:=by simp [ByteArray.size_append,Tx]
  have s8 : (Zbg 16 4 0 7 ++ Zbg 37 4 0 64 ++ Zbg 16 1 0 0 ++ Zbg 16 2 0 64 ++ Zbg 16 3 0 1 ++ Zbg 64 0 0 13 ++ Zbg 16 1 0 41 ++ Zbg 64 0 0 3).size ≤ 100:=by simp [ByteArray.size_append,Tx]
  have t : ∀ a b c d,(Zbg a b c d).size ≤ 100:=fun a b c d=>by rw [Tx];decide
  simp only [Zac,e,Option.bind_some,chk,c _ _ s1 (t _ _ _ _),c _ _ s2 (t _ _ _ _),c _ _ s3 (t _ _ _ _),c _ _ s4 (t _ _ _ _),c _ _ s5 (t _ _ _ _),c _ _ s6 (t _ _ _ _),c _ _ s7 (t _ _ _ _),c _ _ s8 (t _ _ _ _),if_true]
  rfl
theorem Zkh : Zba topP=.nil:=by kernel_rfl
theorem Zih {p : GPlan} (h : Zba p=.nil) : Ze9 p (Hc p)=[]:=by
  have ok:=Zl3 h
  have hpo : ∀ y ∈ (Hc p).Ports,y=(⟨[],0⟩ : GPort):=fun y hy=>List.eq_of_mem_replicate hy
  have b0 : Booted p (Hc p):=Zqy ok (Hc p) [] (fun _ hx=>by cases hx) rfl rfl (by simp [Hc]) rfl rfl rfl hpo
  have h0:=ok.ev0
  have k3 : K3 p (Hc p)=true:=by
    unfold K3 Hc;simp;omega
  have k1 : K1 p (Hc p)=true:=by simp [K1,Hc]
  rw [Zqz h b0 (Zq0 rfl),k3,k1];rfl
theorem Zii {p : GPlan} (h : Zba p=.nil) : Zs8 (Hc p):=by
  have ok:=Zl3 h
  have h1:=ok.po1
  have h2:=ok.pg1
  exact⟨by simp [Hc],by simp [Hc];omega,by simp [Hc];omega⟩
theorem Zki (l : List Int) : Gu l l=some true:=by
  have hL:=Zeb (L:=Wj l l) (a:=l) (b:=l) rfl (fun i x y hi hx hy=>by
    have e : x=y:=Option.some.inj (hx.symm.trans hy)
    subst e
    simp only [Wj,hi,hx,decide_true,cond_true,Option.bind_some,Bool.not_true,cond_false,if_true]) (by simp [Wj])
  rw [if_pos rfl] at hL
  simp only [Gu,hL,decide_true,Bool.not_true,cond_false,Option.bind_some]
theorem Zgl {p : GPlan} (h : Zna p) : Xy p=some p:=by
  obtain⟨h1,h2,h3,h4⟩:=h
  simp only [Zls] at *
  simp only [Xy,List.nil_append,List.length_nil,Nat.zero_add,chk,h1,h2,h3,h4,if_true]
theorem Zkj {p : GPlan} (h : Zba p=.nil) : Ux (Hc p)=some (Hc p):=by
  have ok:=Zl3 h
  have a1:=ok.pr1;have a2:=ok.pg1;have a3:=ok.po1;have a4:=ok.ev1;have a5:=ok.se1;have a6:=Zkg p.Procs 0;have a7:=ok.ev0
  generalize hs : Hc p=s
  have l1 : s.Procs.length=p.Procs.length:=by rw [← hs];simp [Hc]
  have l2 : s.Ready.length ≤ p.Procs.length:=by rw [← hs];exact a6
  have l3 : s.Timers.length=0:=by rw [← hs];rfl
  have l4 : s.Up.length=p.Events.toNat:=by rw [← hs];simp [Hc]
  have l5 : s.Sems.length=p.Sems.length:=by rw [← hs];rfl
  have l6 : s.Pages.length=p.Pages.length:=by rw [← hs];simp [Hc]
  have l7 : s.Ports.length=p.Ports.length:=by rw [← hs];simp [Hc]
  have l8 : ∀ x ∈ s.Ports,x=(⟨[],0⟩ : GPort):=by rw [← hs];exact fun y hy=>List.eq_of_mem_replicate hy
  have hL:=Zjb (L:=Ve s) (fun t : List GPort × Nat=>t.2 ≤ s.Ports.length ∧ t.1=s.Ports.take t.2) (fun r=>r=s.Ports) (fun t=>s.Ports.length - t.2) (fun t hI=>by
    obtain⟨l,i⟩:=t
    obtain⟨hi,h1⟩:=hI
    simp only at hi h1
    by_cases hlt : i < s.Ports.length
    · have hx : s.Ports[i]? = some s.Ports[i]:=List.getElem?_eq_getElem hlt
      have hm:=l8 _ (List.getElem_mem hlt)
      generalize s.Ports[i]=x at hx hm
      have hl1 : l.length=i:=by rw [h1];simp;omega
      have c1 : (([] : List ByteArray).length + x.Msgs.length) * 16 ≤ 140737488355328:=by rw [hm];simp
      have c2 : (l.length + 1) * 32 ≤ 140737488355328:=by omega
      refine .inl ⟨(l ++ [x],i + 1),?_,⟨by simp only;omega,by simp only;rw [Zqe hx,h1]⟩,by simp only;omega⟩
      simp only [Ve,hlt,hx,decide_true,cond_true,Option.bind_some,chk,c1,c2,if_true,List.nil_append]
    · refine .inr ⟨l,?_,?_⟩
      · simp only [Ve,hlt,decide_false,cond_false]
      · rw [h1,List.take_of_length_le (by omega)]) (s:=([],0)) ⟨Nat.zero_le _,rfl⟩
  obtain⟨_,hL,rfl⟩:=hL
  have c1 : (([] : List GProc).length + s.Procs.length) * 104 ≤ 140737488355328:=by simp only [List.length_nil];omega
  have c2 : (([] : List Int).length + s.Ready.length) * 8 ≤ 140737488355328:=by simp only [List.length_nil];omega
  have c3 : (([] : List GTimer).length + s.Timers.length) * 16 ≤ 140737488355328:=by simp only [List.length_nil];omega
  have c4 : (([] : List Bool).length + s.Up.length) * 1 ≤ 140737488355328:=by simp only [List.length_nil];omega
  have c5 : (([] : List Int).length + s.Sems.length) * 8 ≤ 140737488355328:=by simp only [List.length_nil];omega
  have c6 : (([] : List GPage).length + s.Pages.length) * 80 ≤ 140737488355328:=by simp only [List.length_nil];omega
  simp only [Ux,chk,c1,c2,c3,c4,c5,c6,if_true,hL,Option.bind_some,List.nil_append]
theorem Zfv (b : List UInt8) (hb : b.length ≤ 140737488355328) : Wr b=some true:=by
  have c1 : (([] : List UInt8).length + b.length) * 1 ≤ 140737488355328:=by simp only [List.length_nil];omega
  obtain⟨p,e,hr,h1,h2⟩:=Zkd b hb
  by_cases he : e=.nil
  · obtain⟨g1,g2⟩:=h1 he
    simp only [Wr,chk,c1,if_true,List.nil_append,hr,Option.bind_some,he,decide_true,Bool.not_true,cond_false,cond_true,Zea g1,g2]
  · simp only [Wr,chk,c1,if_true,List.nil_append,hr,Option.bind_some,he,decide_false,Bool.not_false,cond_true]
theorem Zq2 {p : GPlan} (h : Zba p=.nil) : 0 < Zfp p:=by
  have ok:=Zll h
  have k1:=ok.pg1;have k2:=ok.pr1;have k3:=ok.ev0;have k4:=ok.ev1;have k5:=ok.se1;have k6:=ok.po1
  have hm:=Zsj ok
  have hs:=(Zic p.Ports 0 hm (Int.le_refl _) (by omega)).2.1
  rw [Zsi (by omega) (by omega) k3 (by omega) (by omega) k6 hm]
  omega
theorem Zsq {p : GPlan} (h : Zba p=.nil) : Gk (Xm p (Hc p,.nil)) 0=some (.inl ()):=by
  have ok:=Zll h
  have hL:=Zas (L:=Xm p (Hc p,.nil)) (l:=p.Procs) (f:=fun _ _=>none) (fun i x hi hx=>by
    have hx' : (Hc p).Procs[i]? = some (Zd2 x):=by simp [Hc,List.getElem?_map,hx]
    obtain⟨h1,h2,h3,h4,_⟩:=ok.prio x (List.mem_of_getElem? hx)
    have hw : IntKind.u32.wrap x.Entry=x.Entry:=by
      have : IntKind.u32.wrap x.Entry=x.Entry % 4294967296:=by simp [IntKind.wrap,IntKind.signed,IntKind.bits]
      rw [this];omega
    have hw2 : IntKind.i64.wrap x.Entry=x.Entry:=Qo ⟨by omega,by omega⟩
    have ha : (decide ((if x.Auto=true then (1 : Int) else 0)=1) == x.Auto)=true:=by cases x.Auto <;> rfl
    rw [Zc6]
    simp only [Xm,Wc,hi,hx,hx',Zd2,ha,hw,hw2,decide_true,cond_true,Option.bind_some,Bool.not_true,cond_false]) (by simp [Xm])
  rw [hL]
  have : ∀ (l : List GProcPlan) k,Yq (fun (_ : Nat) (_ : GProcPlan)=>(none : Option Bool)) k l=none:=by
    intro l
    induction l with
    | nil=>intro k;rfl
    | cons x r ih=>intro k;rw [Yq];exact ih _
  rw [this];rfl
theorem Zfw (p : GPlan) (b : List UInt8) (hP : Zna p) (hb : b.length ≤ 140737488355328) : Un p b=some true:=by
  have t1:=Zl6 Zkh
  have t2:=Zd1 topP (Hc topP) (Zii Zkh)
  rw [Zih Zkh] at t2
  have t3 : Gu (Hc topP).Ready [0]=some true:=Zki [0]
  have main : Jc p b false=some true:=by
    by_cases h : Zba p=.nil
    · have ok:=Zll h
      have v1:=Zd1 p (Hc p) (Zii h)
      have v2:=Zoz p (Hc p) (Zii h)
      unfold Zso at v2
      rw [Zih h] at v1 v2
      have hbn:=Zh3 p
      rw [if_pos h] at hbn
      have e1 : (Hc p).Id=p.Id:=rfl
      have e2 : (Hc p).Frame=0:=rfl
      have e3 : (Hc p).Epoch=0:=rfl
      have e4 : (Hc p).Procs.length=p.Procs.length:=by simp [Hc]
      have e5 : (Hc p).Pages.length=p.Pages.length:=by simp [Hc]
      have hrl:=Zh2 ok
      have hlen : (Zau p).length=19 + (Za1 p).length:=by
        have h4 : (Zm5 (Zn5 (Tz p))).length=4:=rfl
        rw [Zau,List.length_append,h4,Tz,List.length_append,Zd0];omega
      have c1 : (([] : List UInt8).length + (Zau p).length) * 1 ≤ 140737488355328:=by simp only [List.length_nil];omega
      have c1' : (0 + (Zau p).length) * 1 ≤ 140737488355328:=c1
      have b1:=ok.bnd
      have b2:=Zq2 h
      simp only [Jc,Vf,Zgl hP,Hs,h,Zl6 h,Zkj h,v1,v2,hbn,e1,e2,e3,e4,e5,Zsq h,Zea h,chk,c1,c1',if_true,List.nil_append,Ziq h,Zot,b1,b2,Zfv b hb,List.length_nil,decide_true,Bool.not_true,cond_true,cond_false,Option.bind_some]
    · have hbn:=Zh3 p
      rw [if_neg h] at hbn
      have hbt : Gf p=some ((⟨0,0,0,([] : List GProc),([] : List Int),([] : List GTimer),([] : List Bool),([] : List Int),([] : List GPort),([] : List GPage)⟩ : GState),(.v Hp)):=by
        simp only [Gf,Hs,h,decide_false,Bool.not_false,cond_true,Option.bind_some]
      have c8 : (ErrM.v Hp).code=8:=by decide
      simp only [Jc,Wb,Zgl hP,Hs,h,hbt,Zia h,hbn,c8,Zfv b hb,decide_true,decide_false,Bool.not_false,cond_true,cond_false,Option.bind_some]
  simp only [Un,Zq1,t1,t2,t3,main,List.length_nil,decide_true,Bool.not_true,cond_false,Option.bind_some]
end Go.Proofs.YtfemfiiagjnhdaaGreatDoor
