/- Part of a claim, shortened by a program from its texts: PBytLPb. -/
import Derived.Test.YtfemfiiagjnhdaaGreatDoorQyJ
set_option linter.unusedVariables false
set_option linter.unusedSimpArgs false
set_option linter.unusedSectionVars false
namespace Go.Proofs.YtfemfiiagjnhdaaGreatDoor
open Go Go.RowKit
abbrev Zq7 (i : Nat) (q : GPlan) : Nat × List GPagePlan × List GProcPlan × List GPortPlan × Int × List Int:=(i,q.Pages,q.Procs,q.Ports,q.Events,q.Sems)
abbrev looO (q : GPlan) : List GPagePlan × List GProcPlan × List GPortPlan × Int × List Int:=(q.Pages,q.Procs,q.Ports,q.Events,q.Sems)
theorem Zs0 (r : GR02Rec) (l : List Int) (hb : l.length + r.Body.length ≤ 17179869184) : Vj (Vd r) (0,l)=some (l ++ r.Body.map fun b=>(b.toNat : Int)):=by
  have key : ∀ m k l,k + m=r.Body.length → l.length + m ≤ 17179869184 → Vj (Vd r) (k,l)=some (l ++ (r.Body.drop k).map fun b=>(b.toNat : Int)):=by
    intro m
    induction m with
    | zero=>
      intro k l hk _
      rw [List.drop_eq_nil_of_le (by omega),List.map_nil,List.append_nil]
      exact Ka (by simp only [Vd,show ¬ k < r.Body.length by omega,decide_false,cond_false])
    | succ m ih=>
      intro k l hk hl
      have hlt : k < r.Body.length:=by omega
      have hx : r.Body[k]? = some r.Body[k]:=List.getElem?_eq_getElem hlt
      have hd : r.Body.drop k=r.Body[k] :: r.Body.drop (k + 1):=List.drop_eq_getElem_cons hlt
      have c1 : (l.length + [((r.Body[k]).toNat : Int)].length) * 8 ≤ 140737488355328:=by simp only [List.length_cons,List.length_nil];omega
      rw [Xi (s':=(k + 1,l ++ [((r.Body[k]).toNat : Int)])) (by simp only [Vd,hlt,hx,chk,c1,decide_true,cond_true,Option.bind_some,if_true]),ih (k + 1) _ (by omega) (by rw [List.length_append];simp only [List.length_cons,List.length_nil];omega),hd,List.map_cons,List.append_assoc]
      rfl
  exact key r.Body.length 0 l (by omega) hb
def Zem (r : GR02Rec) (q : GPlan) : GPlan:=
  if (decide (r.Tag=1) && decide (1 ≤ r.Body.length))=true then Zkh ⟨((r.Body[0]?.getD 0).toNat : Int),Za6 ((r.Body.drop 1).take (r.Body.length - 1))⟩ q
  else if (decide (r.Tag=2) && decide (r.Body.length=6))=true then Zki ⟨(IntKind.i64.wrap ((IntKind.i64.wrap ((IntKind.i64.wrap ((IntKind.i64.wrap (((r.Body[0]?.getD 0).toNat : Int) * 16777216)) + (IntKind.i64.wrap (((r.Body[1]?.getD 0).toNat : Int) * 65536)))) + (IntKind.i64.wrap (((r.Body[2]?.getD 0).toNat : Int) * 256)))) + ((r.Body[3]?.getD 0).toNat : Int))),((r.Body[4]?.getD 0).toNat : Int),decide (((r.Body[5]?.getD 0).toNat : Int)=1)⟩ q
  else if (decide (r.Tag=3) && decide (r.Body.length=4))=true then Zkj ⟨((r.Body[0]?.getD 0).toNat : Int),((r.Body[1]?.getD 0).toNat : Int),((r.Body[2]?.getD 0).toNat : Int),((r.Body[3]?.getD 0).toNat : Int)⟩ q
  else if (decide (r.Tag=4) && decide (r.Body.length=1))=true then evU ((r.Body[0]?.getD 0).toNat : Int) q
  else if decide (r.Tag=5)=true then Zth (r.Body.map fun b=>(b.toNat : Int)) q
  else q
theorem Zau {l : List UInt8} {i : Nat} (h : i < l.length) : l[i]? = some (l[i]?.getD 0):=by rw [List.getElem?_eq_getElem h];rfl
theorem Zq8 (r : GR02Rec) (q : GPlan) : lens (Zem r q) ≤ lens q + (r.Body.length + 1):=by
  unfold Zem
  repeat' split
  all_goals simp only [lens,Zkh,Zki,Zkj,evU,Zth,List.length_append,List.length_cons,List.length_nil,List.length_map];omega
theorem Zs1 (r : GR02Rec) (q : GPlan) : (Zem r q).Id=q.Id ∧ (Zem r q).Mobile=q.Mobile:=by
  unfold Zem
  (repeat' split) <;> exact⟨rfl,rfl⟩
theorem Zs2 {rs : List GR02Rec} {i : Nat} {r : GR02Rec} (hi : i < rs.length) (hx : rs[i]? = some r) (q : GPlan) (hq : lens q + r.Body.length ≤ 8589934592) : Xq rs (Zq7 i q)=some (.inl (Zq7 (i + 1) (Zem r q))):=by
  unfold lens at hq
  unfold Zem
  rcases Bool.eq_false_or_eq_true (decide (r.Tag=1) && decide (1 ≤ r.Body.length)) with e1|e1
  · have hl : 1 ≤ r.Body.length:=by simp only [Bool.and_eq_true,decide_eq_true_eq] at e1;exact e1.2
    have g0:=Zau (l:=r.Body) (i:=0) (by omega)
    generalize r.Body[0]?.getD 0=x at g0
    have c1 : (0 : Int) ≤ 1 ∧ (1 : Int) ≤ ((r.Body.length : Nat) : Int) ∧ ((r.Body.length : Nat) : Int) ≤ ((r.Body.length : Nat) : Int):=⟨by decide,by omega,by omega⟩
    have c2 : ∀ t : GPagePlan,(q.Pages.length + [t].length) * 24 ≤ 140737488355328:=fun t=>by simp only [List.length_cons,List.length_nil];omega
    simp only [Zq7,Xq,Kd,hi,hx,e1,g0,chk,c1,and_self,c2,decide_true,cond_true,Option.bind_some,if_true,Option.getD_some,Int.toNat_natCast]
    rfl
  rcases Bool.eq_false_or_eq_true (decide (r.Tag=2) && decide (r.Body.length=6)) with e2|e2
  · have hl : r.Body.length=6:=by simp only [Bool.and_eq_true,decide_eq_true_eq] at e2;exact e2.2
    have g0:=Zau (l:=r.Body) (i:=0) (by omega)
    have g1:=Zau (l:=r.Body) (i:=1) (by omega)
    have g2:=Zau (l:=r.Body) (i:=2) (by omega)
    have g3:=Zau (l:=r.Body) (i:=3) (by omega)
    have g4:=Zau (l:=r.Body) (i:=4) (by omega)
    have g5:=Zau (l:=r.Body) (i:=5) (by omega)
    generalize r.Body[0]?.getD 0=x0 at g0
    generalize r.Body[1]?.getD 0=x1 at g1
    generalize r.Body[2]?.getD 0=x2 at g2
    generalize r.Body[3]?.getD 0=x3 at g3
    generalize r.Body[4]?.getD 0=x4 at g4
    generalize r.Body[5]?.getD 0=x5 at g5
    have c2 : ∀ t : GProcPlan,(q.Procs.length + [t].length) * 24 ≤ 140737488355328:=fun t=>by simp only [List.length_cons,List.length_nil];omega
    simp only [Zq7,Xq,Kd,hi,hx,e1,e2,g0,g1,g2,g3,g4,g5,chk,c2,decide_true,cond_true,cond_false,Option.bind_some,if_true,if_false,Bool.false_eq_true,Option.getD_some]
    rfl
  rcases Bool.eq_false_or_eq_true (decide (r.Tag=3) && decide (r.Body.length=4)) with e3|e3
  · have hl : r.Body.length=4:=by simp only [Bool.and_eq_true,decide_eq_true_eq] at e3;exact e3.2
    have g0:=Zau (l:=r.Body) (i:=0) (by omega)
    have g1:=Zau (l:=r.Body) (i:=1) (by omega)
    have g2:=Zau (l:=r.Body) (i:=2) (by omega)
    have g3:=Zau (l:=r.Body) (i:=3) (by omega)
    generalize r.Body[0]?.getD 0=x0 at g0
    generalize r.Body[1]?.getD 0=x1 at g1
    generalize r.Body[2]?.getD 0=x2 at g2
    generalize r.Body[3]?.getD 0=x3 at g3
    have c2 : ∀ t : GPortPlan,(q.Ports.length + [t].length) * 32 ≤ 140737488355328:=fun t=>by simp only [List.length_cons,List.length_nil];omega
    simp only [Zq7,Xq,Kd,hi,hx,e1,e2,e3,g0,g1,g2,g3,chk,c2,decide_true,cond_true,cond_false,Option.bind_some,if_true,if_false,Bool.false_eq_true,Option.getD_some]
    rfl
  rcases Bool.eq_false_or_eq_true (decide (r.Tag=4) && decide (r.Body.length=1)) with e4|e4
  · have hl : r.Body.length=1:=by simp only [Bool.and_eq_true,decide_eq_true_eq] at e4;exact e4.2
    have g0:=Zau (l:=r.Body) (i:=0) (by omega)
    generalize r.Body[0]?.getD 0=x0 at g0
    simp only [Zq7,Xq,Kd,hi,hx,e1,e2,e3,e4,g0,decide_true,cond_true,cond_false,Option.bind_some,if_true,if_false,Bool.false_eq_true,Option.getD_some]
    rfl
  rcases Bool.eq_false_or_eq_true (decide (r.Tag=5)) with e5|e5
  · have hs:=Zs0 r q.Sems (by omega)
    simp only [Zq7,Xq,Kd,hi,hx,e1,e2,e3,e4,e5,hs,decide_true,cond_true,cond_false,Option.bind_some,if_true,if_false,Bool.false_eq_true]
    rfl
  · simp only [Zq7,Xq,Kd,hi,hx,e1,e2,e3,e4,e5,decide_true,cond_true,cond_false,Option.bind_some,if_false,Bool.false_eq_true]
theorem Zq9 (q : GPlan) (hq : q.Pages=[] ∧ q.Procs=[] ∧ q.Ports=[] ∧ q.Sems=[]) (rs : List GR02Rec) (hw : wt rs ≤ 4294967296) : Zbq q rs=some (rs.foldl (fun q r=>Zem r q) q):=by
  have fix : ∀ (rs : List GR02Rec) (q : GPlan),(rs.foldl (fun q r=>Zem r q) q).Id=q.Id ∧ (rs.foldl (fun q r=>Zem r q) q).Mobile=q.Mobile:=by
    intro rs
    induction rs with
    | nil=>intro q;exact⟨rfl,rfl⟩
    | cons r rs ih=>
      intro q
      have h1:=ih (Zem r q)
      have h2:=Zs1 r q
      rw [List.foldl_cons,h1.1,h1.2]
      exact h2
  have key : ∀ m k q,k + m=rs.length → lens q + wt (rs.drop k) ≤ 4294967296 → Vj (Xq rs) (Zq7 k q)=some (looO ((rs.drop k).foldl (fun q r=>Zem r q) q)):=by
    intro m
    induction m with
    | zero=>
      intro k q hk _
      rw [List.drop_eq_nil_of_le (by omega)]
      exact Ka (by simp only [Zq7,Xq,show ¬ k < rs.length by omega,decide_false,cond_false];rfl)
    | succ m ih=>
      intro k q hk hl
      have hlt : k < rs.length:=by omega
      have hx : rs[k]? = some rs[k]:=List.getElem?_eq_getElem hlt
      have hd : rs.drop k=rs[k] :: rs.drop (k + 1):=List.drop_eq_getElem_cons hlt
      generalize rs[k]=r at hx hd
      rw [hd] at hl ⊢
      have hw : wt (r :: rs.drop (k + 1))=r.Body.length + 1 + wt (rs.drop (k + 1)):=by simp [wt]
      have hle:=Zq8 r q
      rw [Xi (Zs2 hlt hx q (by omega)),ih (k + 1) _ (by omega) (by omega)]
      rfl
  have h:=key rs.length 0 q (by omega) (by rw [List.drop_zero];simp only [lens,hq.1,hq.2.1,hq.2.2.1,hq.2.2.2,List.length_nil];omega)
  rw [List.drop_zero] at h
  simp only [Zq7,hq.1,hq.2.1,hq.2.2.1,hq.2.2.2,looO] at h
  obtain⟨f1,f2⟩:=fix rs q
  simp only [Zbq,h,Option.bind_some]
  rw [← f1,← f2]
def Zen (p : GPlan) : List RItem:=p.Pages.map (fun x=>(1,Hn x)) ++ (p.Procs.map (fun x=>(2,Ty x)) ++ (p.Ports.map (fun x=>(3,Zas x)) ++ [(4,be p.Events 1),(5,p.Sems.flatMap Zfa)]))
theorem Zm5 (p : GPlan) : (Zen p).flatMap (fun i=>Tz i.1 i.2)=Kx p:=by
  simp only [Zen,Kx,List.flatMap_append,List.flatMap_map,List.flatMap_cons,List.flatMap_nil,List.append_nil]
theorem Zb0 {n : Int} (h0 : 0 ≤ n) (h1 : n ≤ 255) : (((Zt n).toNat : Nat) : Int)=n:=by rw [Gk];omega
theorem Zs3 {x : GPagePlan} (h : 0 ≤ x.Rights ∧ x.Rights ≤ 7 ∧ x.Init.size ≤ 64) (q : GPlan) : Zem ⟨1,Hn x⟩ q=Zkh x q:=by
  have e : Hn x=Zt x.Rights :: x.Init.data.toList:=by rw [Hn,Vu h.1 (by omega)];rfl
  unfold Zem
  rw [if_pos (by simp [e])]
  have e0 : ((Hn x)[0]?.getD 0)=Zt x.Rights:=by rw [e];rfl
  have e1 : ((Hn x).drop 1).take ((Hn x).length - 1)=x.Init.data.toList:=by
    rw [e,List.drop_succ_cons,List.drop_zero]
    exact List.take_of_length_le (by simp)
  simp only [e0,e1,Zb0 h.1 (by omega),Zl2]
theorem Zs4 {x : GProcPlan} (h : 0 ≤ x.Prio ∧ x.Prio ≤ 255 ∧ 0 ≤ x.Entry ∧ x.Entry < 2048) (q : GPlan) : Zem ⟨2,Ty x⟩ q=Zki x q:=by
  obtain⟨h1,h2,h3,h4⟩:=h
  have hb:=Zd8 (n:=x.Entry) (k:=4) (m:=4294967295) (by decide) h3 (by omega) (by decide)
  have e4 : ∃ a b c d,be x.Entry 4=[a,b,c,d]:=⟨_,_,_,_,rfl⟩
  obtain⟨a,b,c,d,e4⟩:=e4
  have ef : Zds x.Auto=[Zt (if x.Auto=true then 1 else 0)]:=by cases x.Auto <;> rfl
  have e : Ty x=[a,b,c,d,Zt x.Prio,Zt (if x.Auto=true then 1 else 0)]:=by rw [Ty,e4,Vu h1 h2,ef];rfl
  rw [e4] at hb
  simp only [Qz,List.foldl_cons,List.foldl_nil] at hb
  have la:=a.toNat_lt;have lb:=b.toNat_lt;have lc:=c.toNat_lt;have ld:=d.toNat_lt
  have w1 : IntKind.i64.wrap (((a.toNat : Nat) : Int) * 16777216)=((a.toNat : Nat) : Int) * 16777216:=Qb ⟨by omega,by omega⟩
  have w2 : IntKind.i64.wrap (((b.toNat : Nat) : Int) * 65536)=((b.toNat : Nat) : Int) * 65536:=Qb ⟨by omega,by omega⟩
  have w3 : IntKind.i64.wrap (((c.toNat : Nat) : Int) * 256)=((c.toNat : Nat) : Int) * 256:=Qb ⟨by omega,by omega⟩
  have w4 : IntKind.i64.wrap (((a.toNat : Nat) : Int) * 16777216 + ((b.toNat : Nat) : Int) * 65536)=((a.toNat : Nat) : Int) * 16777216 + ((b.toNat : Nat) : Int) * 65536:=Qb ⟨by omega,by omega⟩
  have w5 : IntKind.i64.wrap (((a.toNat : Nat) : Int) * 16777216 + ((b.toNat : Nat) : Int) * 65536 + ((c.toNat : Nat) : Int) * 256)=((a.toNat : Nat) : Int) * 16777216 + ((b.toNat : Nat) : Int) * 65536 + ((c.toNat : Nat) : Int) * 256:=Qb ⟨by omega,by omega⟩
  have w6 : IntKind.i64.wrap (((a.toNat : Nat) : Int) * 16777216 + ((b.toNat : Nat) : Int) * 65536 + ((c.toNat : Nat) : Int) * 256 + ((d.toNat : Nat) : Int))=x.Entry:=by rw [Qb ⟨by omega,by omega⟩];omega
  have hf : decide ((((Zt (if x.Auto=true then (1 : Int) else 0)).toNat : Nat) : Int)=1)=x.Auto:=by cases x.Auto <;> rfl
  unfold Zem
  rw [e,if_neg (by simp),if_pos (by simp)]
  simp only [List.getElem?_cons_zero,List.getElem?_cons_succ,Option.getD_some,w1,w2,w3,w4,w5,w6,Zb0 h1 h2,hf]
theorem Zs5 {x : GPortPlan} (h : 1 ≤ x.Kind ∧ x.Kind ≤ 4 ∧ 1 ≤ x.Size ∧ x.Size ≤ 32 ∧ 1 ≤ x.Depth ∧ x.Depth ≤ 8 ∧ 0 ≤ x.Refresh ∧ x.Refresh ≤ 255) (q : GPlan) : Zem ⟨3,Zas x⟩ q=Zkj x q:=by
  obtain⟨h1,h2,h3,h4,h5,h6,h7,h8⟩:=h
  have e : Zas x=[Zt x.Kind,Zt x.Size,Zt x.Depth,Zt x.Refresh]:=by rw [Zas,Vu (by omega) (by omega),Vu (by omega) (by omega),Vu (by omega) (by omega),Vu (by omega) (by omega)];rfl
  unfold Zem
  rw [e,if_neg (by simp),if_neg (by simp),if_pos (by simp)]
  simp only [List.getElem?_cons_zero,List.getElem?_cons_succ,Option.getD_some]
  rw [Zb0 (by omega) (by omega),Zb0 (by omega) (by omega),Zb0 (by omega) (by omega),Zb0 (by omega) (by omega)]
theorem loo_ev {n : Int} (h0 : 0 ≤ n) (h1 : n ≤ 8) (q : GPlan) : Zem ⟨4,be n 1⟩ q=evU n q:=by
  unfold Zem
  rw [Vu h0 (by omega),if_neg (by simp),if_neg (by simp),if_neg (by simp),if_pos (by simp)]
  simp only [List.getElem?_cons_zero,Option.getD_some]
  rw [Zb0 h0 (by omega)]
theorem Zuu {l : List Int} (h : ∀ n ∈ l,0 ≤ n ∧ n ≤ 255) (q : GPlan) : Zem ⟨5,l.flatMap Zfa⟩ q=Zth l q:=by
  unfold Zem
  rw [if_neg (by simp),if_neg (by simp),if_neg (by simp),if_neg (by simp),if_pos (by simp)]
  simp only [Zic h]
theorem Zm6 {p : GPlan} (ok : OkK p) : ((Zen p).map fun i=>(⟨i.1,i.2⟩ : GR02Rec)).foldl (fun q r=>Zem r q) ⟨p.Id,p.Mobile,[],[],[],0,[]⟩=p:=by
  have f1 : ∀ (l : List GPagePlan) (q : GPlan),(∀ x ∈ l,x ∈ p.Pages) → l.foldl (fun q x=>Zem ⟨1,Hn x⟩ q) q=l.foldl (fun q x=>Zkh x q) q:=by
    intro l
    induction l with
    | nil=>intro q _;rfl
    | cons x l ih=>intro q h;rw [List.foldl_cons,List.foldl_cons,Zs3 (ok.pag x (h x (List.mem_cons_self ..)))];exact ih _ fun y hy=>h y (List.mem_cons_of_mem _ hy)
  have f2 : ∀ (l : List GProcPlan) (q : GPlan),(∀ x ∈ l,x ∈ p.Procs) → l.foldl (fun q x=>Zem ⟨2,Ty x⟩ q) q=l.foldl (fun q x=>Zki x q) q:=by
    intro l
    induction l with
    | nil=>intro q _;rfl
    | cons x l ih=>
      intro q h
      obtain⟨a1,a2,a3,a4,_⟩:=ok.prio x (h x (List.mem_cons_self ..))
      rw [List.foldl_cons,List.foldl_cons,Zs4 ⟨a1,a2,a3,a4⟩];exact ih _ fun y hy=>h y (List.mem_cons_of_mem _ hy)
  have f3 : ∀ (l : List GPortPlan) (q : GPlan),(∀ x ∈ l,x ∈ p.Ports) → l.foldl (fun q x=>Zem ⟨3,Zas x⟩ q) q=l.foldl (fun q x=>Zkj x q) q:=by
    intro l
    induction l with
    | nil=>intro q _;rfl
    | cons x l ih=>intro q h;rw [List.foldl_cons,List.foldl_cons,Zs5 (ok.dep x (h x (List.mem_cons_self ..))).2];exact ih _ fun y hy=>h y (List.mem_cons_of_mem _ hy)
  simp only [Zen,List.map_append,List.map_map,List.foldl_append,List.foldl_map,List.map_cons,List.map_nil,List.foldl_cons,List.foldl_nil,Function.comp]
  rw [f1 _ _ fun _ h=>h,f2 _ _ fun _ h=>h,f3 _ _ fun _ h=>h,Zgi,Zgj,Zgk,loo_ev ok.ev0 ok.ev1,Zuu ok.sem]
  simp only [evU,Zth,List.nil_append]
def Vi (b : List UInt8) : Int:=
  if b.length < 4 then 1 else if ¬ Zgh b then 6 else if (b.take (b.length - 4)).length < 15 then 1
  else if ¬ Za6 ((b.take (b.length - 4)).take 6)=⟨#[70,80,76,78,0,1]⟩ then 7
  else if ¬ Qz (cut (b.take (b.length - 4)) 6 4)=((b.length : Nat) : Int) then 5 else 0
theorem Zgn : (ErrM.v Vb).code=1:=by decide
theorem Zuv : (ErrM.v gSum).code=6:=by decide
theorem Zra : (ErrM.v Zin).code=7:=by decide
theorem Zkn : (ErrM.v Vv).code=5:=by decide
theorem Zrb : (ErrM.v Hr).code=8:=by decide
structure ReadsAs (b : List UInt8) (p : GPlan) (c : Int) : Prop where
  ok : c=0 → Vi b=0 ∧ Hu p=.nil ∧ Jy p=b
  bad : c ≠ 0 → p=noP ∧ c=if Vi b=0 then 8 else Vi b
theorem Zir (b : List UInt8) (hb : b.length ≤ 140737488355328) : ∃ p e,Jh b=some (p,e) ∧ (e=.nil ∨ ∃ g,e=.v g) ∧ (e ≠ .nil → e.code ≠ 0) ∧ ReadsAs b p e.code:=by
  have hO:=Zn2 b hb
  by_cases h4 : b.length < 4
  · rw [if_pos h4] at hO
    have he : Vi b=1:=by unfold Vi;rw [if_pos h4]
    exact⟨noP,.v Vb,by simp only [Jh,hO,Option.bind_some,noP];rfl,.inr ⟨_,rfl⟩,fun _=>by rw [Zgn];decide,⟨(fun h=>by rw [Zgn] at h;cases h),fun _=>⟨rfl,by rw [he,Zgn];rfl⟩⟩⟩
  rw [if_neg h4] at hO
  by_cases ho : Zgh b
  rotate_left
  · rw [if_neg ho] at hO
    have he : Vi b=6:=by unfold Vi;rw [if_neg h4,if_pos ho]
    exact⟨noP,.v gSum,by simp only [Jh,hO,Option.bind_some,noP];rfl,.inr ⟨_,rfl⟩,fun _=>by rw [Zuv];decide,⟨(fun h=>by rw [Zuv] at h;cases h),fun _=>⟨rfl,by rw [he,Zuv];rfl⟩⟩⟩
  rw [if_pos ho] at hO
  have hl : (b.take (b.length - 4)).length=b.length - 4:=by rw [List.length_take];omega
  generalize hbody : b.take (b.length - 4)=body at hO hl
  by_cases h15 : body.length < 15
  · have he : Vi b=1:=by unfold Vi;rw [if_neg h4,if_neg (fun h=>h ho),hbody,if_pos h15]
    exact⟨noP,.v Vb,by simp only [Jh,hO,h15,Option.bind_some,decide_true,Bool.not_true,cond_true,cond_false,noP],.inr ⟨_,rfl⟩,fun _=>by rw [Zgn];decide,⟨(fun h=>by rw [Zgn] at h;cases h),fun _=>⟨rfl,by rw [he,Zgn];rfl⟩⟩⟩
  have c6 : (0 : Int) ≤ 6 ∧ (6 : Int) ≤ ((body.length : Nat) : Int):=⟨by decide,by omega⟩
  by_cases hk : Za6 (body.take (6 : Int).toNat)=⟨#[70,80,76,78,0,1]⟩
  rotate_left
  · have he : Vi b=7:=by unfold Vi;rw [if_neg h4,if_neg (fun h=>h ho),hbody,if_neg h15];exact if_pos hk
    exact⟨noP,.v Zin,by simp only [Jh,hO,h15,hk,chk,c6,and_self,if_true,Option.bind_some,decide_true,decide_false,Bool.not_true,Bool.not_false,cond_true,cond_false,noP],.inr ⟨_,rfl⟩,fun _=>by rw [Zra];decide,⟨(fun h=>by rw [Zra] at h;cases h),fun _=>⟨rfl,by rw [he,Zra];rfl⟩⟩⟩
  have hop:=Zjc body (by omega)
  have ok0:=Zl1 body (by omega)
  have hlen10 : ¬ ((body.length : Nat) : Int) - 0 < ((6 : Nat) : Int):=by omega
  have hraw:=Zgf ⟨body,0,((body.length : Nat) : Int)⟩ 6 ok0
  unfold Zos at hraw
  simp only at hraw
  rw [if_neg hlen10] at hraw
  have ok1 : OkCur (adv (⟨body,0,((body.length : Nat) : Int)⟩ : GWireCursor) ((6 : Nat) : Int)):=⟨by simp only;omega,by simp only;omega,Int.le_refl _,ok0.sz⟩
  have hu1:=Zge _ ok1
  have hv : Qy (adv (⟨body,0,((body.length : Nat) : Int)⟩ : GWireCursor) ((6 : Nat) : Int)) 4 0 4294967295=(Qz (cut body 6 4),.nil,adv (adv (⟨body,0,((body.length : Nat) : Int)⟩ : GWireCursor) ((6 : Nat) : Int)) ((4 : Nat) : Int)):=by
    have hc:=Zbv (b:=body) (a:=6) (n:=4) (by omega)
    obtain⟨b0,b1⟩:=Zdf 4 _ hc
    have h256 : (256 : Int) ^ 4=4294967296:=by decide
    unfold Qy
    have e6 : ((adv (⟨body,0,((body.length : Nat) : Int)⟩ : GWireCursor) ((6 : Nat) : Int)).at_).toNat=6:=rfl
    rw [e6,if_neg (by simp only;omega),if_neg (by simp only;omega)]
  rw [hv] at hu1
  by_cases hn : Qz (cut body 6 4)=((b.length : Nat) : Int)
  rotate_left
  · have he : Vi b=5:=by unfold Vi;rw [if_neg h4,if_neg (fun h=>h ho),hbody,if_neg h15];exact (if_neg (fun h=>h hk)).trans (if_pos hn)
    refine⟨noP,.v Vv,?_,.inr ⟨_,rfl⟩,fun _=>by rw [Zkn];decide,⟨(fun h=>by rw [Zkn] at h;cases h),fun _=>⟨rfl,by rw [he,Zkn];rfl⟩⟩⟩
    simp only [adv] at hraw hu1
    have hraw' : Xf (⟨body,0,((body.length : Nat) : Int)⟩ : GWireCursor) 6=_:=hraw
    simp only [Jh,hO,h15,hk,chk,c6,and_self,hop,hraw',hu1,hn,if_true,Option.bind_some,decide_true,decide_false,Bool.not_true,Bool.not_false,cond_true,cond_false,noP]
  have he : Vi b=0:=by unfold Vi;rw [if_neg h4,if_neg (fun h=>h ho),hbody,if_neg h15];exact (if_neg (fun h=>h hk)).trans (if_neg (fun h=>h hn))
  generalize hc0 : (⟨body,0,((body.length : Nat) : Int)⟩ : GWireCursor)=c0 at hop ok0 hraw ok1 hu1
  have hb0 : c0.b_=body:=by rw [← hc0]
  have ok2 : OkCur (adv (adv c0 ((6 : Nat) : Int)) ((4 : Nat) : Int)):=by
    rw [← hc0]
    exact⟨by simp only;omega,by simp only;omega,Int.le_refl _,by simp only;omega⟩
  have hu2:=Zge _ ok2
  have r3:=Vn (k:=4) (lo:=0) (hi:=4294967295) ok2
  have x3:=Hi (k:=4) (lo:=0) (hi:=4294967295) ok2
  generalize Qy (adv (adv c0 ((6 : Nat) : Int)) ((4 : Nat) : Int)) 4 0 4294967295=q3 at hu2 r3 x3
  have hu3:=Zhd _ r3.1
  have r4:=Vn (k:=1) (lo:=0) (hi:=1) r3.1
  have f4 : (Zm0 q3.2.2).2.2=(Qy q3.2.2 1 0 1).2.2:=rfl
  generalize Zm0 q3.2.2=q4 at hu3 f4
  have ok4 : OkCur q4.2.2:=by rw [f4];exact r4.1
  have b4 : q4.2.2.b_=c0.b_:=by rw [f4,r4.2.1,r3.2.1]
  have hsmall : (cut body 6 4).length=4:=Zbv (by omega)
  obtain⟨v0,v1⟩:=Zdf 4 _ hsmall
  have h256 : (256 : Int) ^ 4=4294967296:=by decide
  obtain⟨e,p,hL⟩:=Zsq (r:=c0) (c:=q4.2.2) (p:=⟨q3.1,q4.1,[],[],[],0,[]⟩) (e:=q4.2.1) (by rw [hb0];omega) ok4 b4 (by have:=ok4.a0;simpa [lens] using this)
  have hL' : Vj (Qt c0) (q4.2.1,q4.2.2.at_,q4.2.2.bound_,q3.1,q4.1,[],[],[],0,[])=some (e,p.Id,p.Mobile,p.Pages,p.Procs,p.Ports,p.Events,p.Sems):=hL
  have base : Jh b=(bif (!decide (e=.nil)) then some (noP,(.v Hr)) else (Yb p).bind fun r702=>(((bif (!decide (r702.2=.nil)) then some true else (Jq r702.1 b).bind fun r1213=>some (!r1213))) : Option Bool).bind (fun q=>(Yt p.Id p.Mobile p.Pages p.Procs p.Ports p.Events p.Sems) q)):=by
    have hraw' : Xf c0 6=_:=hraw
    simp only [adv] at hraw' hu1 hu2 x3
    simp only [Jh,hO,h15,hk,chk,c6,and_self,hop,Qu,hraw',hu1,hn,hu2,x3,hu3,if_true,Option.bind_some,decide_true,decide_false,Bool.not_true,cond_false]
    rw [hL']
    rfl
  have c0 : ErrM.nil.code=0:=by decide
  have bad : Jh b=some (noP,.v Hr) → ∃ p e,Jh b=some (p,e) ∧ (e=.nil ∨ ∃ g,e=.v g) ∧ (e ≠ .nil → e.code ≠ 0) ∧ ReadsAs b p e.code:=fun h=>
    ⟨noP,.v Hr,h,.inr ⟨_,rfl⟩,fun _=>by rw [Zrb];decide,⟨(fun h=>by rw [Zrb] at h;cases h),fun _=>⟨rfl,by rw [he,Zrb];rfl⟩⟩⟩
  by_cases hz : e=.nil
  rotate_left
  · exact bad (by rw [base];simp only [hz,decide_false,Bool.not_false,cond_true])
  simp only [hz,decide_true,Bool.not_true,cond_false] at base
  by_cases hp : Hu p=.nil
  · simp only [Zc7 hp,Option.bind_some,decide_true,Bool.not_true,cond_false,Zia] at base
    by_cases hq : Jy p=b
    · simp only [hq,decide_true,Bool.not_true,Yt,cond_false] at base
      exact⟨p,.nil,base,.inl rfl,fun h=>absurd rfl h,⟨fun _=>⟨he,hp,hq⟩,fun h=>absurd c0 h⟩⟩
    · simp only [hq,decide_false,Bool.not_false,Yt,cond_true] at base
      exact bad base
  · have hv : ¬ (ErrM.v Hr=ErrM.nil):=fun h=>by cases h
    simp only [Ze6 hp,Option.bind_some,hv,decide_false,Bool.not_false,cond_true,Yt] at base
    exact bad base
theorem Zko (b : List UInt8) (hb : b.length ≤ 140737488355328) : ∃ p c,Yi b=some (p,c) ∧ (c ≠ 0 → p=noP ∧ c=if Vi b=0 then 8 else Vi b) ∧ (∀ q,Hu q=.nil → Jy q=b → p=q ∧ c=0) ∧ (c=0 → Vi b=0 ∧ Hu p=.nil ∧ Jy p=b):=by
  have hO:=Zsy b hb
  have good : ∀ q,Hu q=.nil → Jy q=b → 19 ≤ b.length ∧ Zgh b ∧ b.take (b.length - 4)=Jx q ∧ (Jx q).length=15 + (Kx q).length ∧ b.length=19 + (Kx q).length:=fun q hq hqb=>by
    have hlen:=Zgl q
    have hbl : (Jx q).length=15 + (Kx q).length:=by rw [Jx,List.length_append,Gw]
    rw [← hqb]
    refine⟨by omega,Zjb (Jx q),?_,hbl,hlen⟩
    rw [hlen,show 19 + (Kx q).length - 4=(Jx q).length by omega,Jy,List.take_left]
  by_cases h4 : b.length < 4
  · rw [if_pos h4] at hO
    have he : Vi b=1:=by unfold Vi;rw [if_pos h4]
    exact⟨noP,1,by simp only [Yi,hO,Option.bind_some,noP];rfl,fun _=>⟨rfl,by rw [he];rfl⟩,fun q h1 h2=>by have:=good q h1 h2;omega,fun h=>by cases h⟩
  rw [if_neg h4] at hO
  by_cases ho : Zgh b
  rotate_left
  · rw [if_neg ho] at hO
    have he : Vi b=6:=by unfold Vi;rw [if_neg h4,if_pos ho]
    exact⟨noP,6,by simp only [Yi,hO,Option.bind_some,noP];rfl,fun _=>⟨rfl,by rw [he];rfl⟩,fun q h1 h2=>absurd (good q h1 h2).2.1 ho,fun h=>by cases h⟩
  rw [if_pos ho] at hO
  have hl : (b.take (b.length - 4)).length=b.length - 4:=by rw [List.length_take];omega
  have good3 : ∀ q,Hu q=.nil → Jy q=b → b.take (b.length - 4)=Jx q:=fun q h1 h2=>(good q h1 h2).2.2.1
  generalize hbody : b.take (b.length - 4)=body at hO hl good3
  have z0 : ((0 : Int)=0)=True:=eq_self 0
  by_cases h15 : body.length < 15
  · have he : Vi b=1:=by unfold Vi;rw [if_neg h4,if_neg (fun h=>h ho),hbody,if_pos h15]
    exact⟨noP,1,by simp only [Yi,hO,h15,Option.bind_some,decide_true,Bool.not_true,cond_true,cond_false,noP],fun _=>⟨rfl,by rw [he];rfl⟩,fun q h1 h2=>by have:=good q h1 h2;rw [hl] at h15;omega,fun h=>by cases h⟩
  have c6 : (0 : Int) ≤ 6 ∧ (6 : Int) ≤ ((body.length : Nat) : Int):=⟨by decide,by omega⟩
  have e6 : ∀ q : GPlan,Jx q=(Jp ++ be 1 2) ++ (be (((15 + (Kx q).length + 4 : Nat)) : Int) 4 ++ (be q.Id 4 ++ (Zds q.Mobile ++ Kx q))):=fun q=>by
    simp only [Jx,Zf0,List.append_assoc]
  have l6 : (Jp ++ be 1 2).length=6:=by simp [Jp,Xg]
  by_cases hk : Za6 (body.take (6 : Int).toNat)=⟨#[70,80,76,78,0,1]⟩
  rotate_left
  · have he : Vi b=7:=by unfold Vi;rw [if_neg h4,if_neg (fun h=>h ho),hbody,if_neg h15];exact if_pos hk
    refine⟨noP,7,by simp only [Yi,hO,h15,hk,chk,c6,and_self,if_true,Option.bind_some,decide_true,decide_false,Bool.not_true,Bool.not_false,cond_true,cond_false,noP],fun _=>⟨rfl,by rw [he];rfl⟩,fun q h1 h2=>?_,fun h=>by cases h⟩
    refine absurd ?_ hk
    rw [good3 q h1 h2,e6 q,show (6 : Int).toNat=(Jp ++ be 1 2).length from by rw [l6];rfl,List.take_left]
    kernel_rfl
  have c66 : (0 : Int) ≤ 6 ∧ (6 : Int) ≤ ((body.length : Nat) : Int) ∧ ((body.length : Nat) : Int) ≤ ((body.length : Nat) : Int):=⟨by decide,by omega,Int.le_refl _⟩
  have c15 : (0 : Int) ≤ 15 ∧ (15 : Int) ≤ ((body.length : Nat) : Int) ∧ ((body.length : Nat) : Int) ≤ ((body.length : Nat) : Int):=⟨by decide,by omega,Int.le_refl _⟩
  have d6 : (body.drop (6 : Int).toNat).take (((body.length : Nat) : Int).toNat - (6 : Int).toNat)=body.drop 6:=List.take_of_length_le (by rw [List.length_drop,Int.toNat_natCast];exact Nat.le_refl _)
  have d15 : (body.drop (15 : Int).toNat).take (((body.length : Nat) : Int).toNat - (15 : Int).toNat)=body.drop 15:=List.take_of_length_le (by rw [List.length_drop,Int.toNat_natCast];exact Nat.le_refl _)
  have l6' : (body.drop 6).length=body.length - 6:=List.length_drop
  have hop : Gb (body.drop 6)=some ⟨body.drop 6,0,(((body.drop 6).length : Nat) : Int)⟩:=by
    have c : (([] : List UInt8).length + (body.drop 6).length) * 1 ≤ 140737488355328:=by rw [l6'];simp only [List.length_nil];omega
    simp only [Gb,chk,c,if_true,List.nil_append]
  have okD:=Zl1 (body.drop 6) (by omega)
  have hr1:=Zn4 ⟨body.drop 6,0,(((body.drop 6).length : Nat) : Int)⟩ okD (by simp only;omega)
  have ok2 : OkCur (cv ⟨body.drop 6,0 + 4,(((body.drop 6).length : Nat) : Int)⟩):=⟨by simp only;omega,by simp only;omega,Int.le_refl _,by simp only;omega⟩
  have hr2:=Zn4 ⟨body.drop 6,0 + 4,(((body.drop 6).length : Nat) : Int)⟩ ok2 (by simp only;omega)
  have v1 : cut (body.drop 6) (0 : Int).toNat 4=cut body 6 4:=rfl
  have v2 : cut (body.drop 6) ((0 : Int) + 4).toNat 4=cut body 10 4:=by rw [cut,List.drop_drop];rfl
  simp only [v1] at hr1
  simp only [v2] at hr2
  by_cases hn : Qz (cut body 6 4)=((b.length : Nat) : Int)
  rotate_left
  · have he : Vi b=5:=by unfold Vi;rw [if_neg h4,if_neg (fun h=>h ho),hbody,if_neg h15];exact (if_neg (fun h=>h hk)).trans (if_pos hn)
    refine⟨noP,5,by simp only [Yi,hO,h15,hk,chk,c6,c66,d6,hop,hr1,hn,and_self,if_true,Option.bind_some,decide_true,decide_false,Bool.not_true,Bool.not_false,cond_true,cond_false,noP],fun _=>⟨rfl,by rw [he];rfl⟩,fun q h1 h2=>?_,fun h=>by cases h⟩
    refine absurd ?_ hn
    have hrl:=Zat (Zfx h1)
    obtain⟨_,_,_,g4,g5⟩:=good q h1 h2
    have : cut body 6 4=be (((15 + (Kx q).length + 4 : Nat)) : Int) 4:=by
      rw [good3 q h1 h2,cut,e6 q,show (6 : Nat)=(Jp ++ be 1 2).length from l6.symm,List.drop_left]
      rw [List.take_append_of_le_length (by rw [Xg];exact Nat.le_refl _),List.take_of_length_le (by rw [Xg];exact Nat.le_refl _)]
    rw [this,Zd8 (m:=4294967295) (by decide) (by omega) (by omega) (by decide)]
    omega
  have he : Vi b=0:=by unfold Vi;rw [if_neg h4,if_neg (fun h=>h ho),hbody,if_neg h15];exact (if_neg (fun h=>h hk)).trans (if_neg (fun h=>h hn))
  have hsmall : (cut body 6 4).length=4:=Zbv (by omega)
  obtain⟨u0,u1⟩:=Zdf 4 _ hsmall
  have h256 : (256 : Int) ^ 4=4294967296:=by decide
  have hx14 : ∃ x,body[14]? = some x:=⟨_,List.getElem?_eq_getElem (by omega)⟩
  obtain⟨x14,hx14⟩:=hx14
  have l15 : (body.drop 15).length=body.length - 15:=List.length_drop
  have fin : ∀ l e,Ui (body.drop 15)=some (l,e) → (wt l : Int) ≤ (body.drop 15).length →
      ∃ p c,Yi b=some (p,c) ∧ ((e.Code=0 ∧ ¬ 2147483647 < Qz (cut body 10 4)) → p=(if Hu (l.foldl (fun q r=>Zem r q) ⟨Qz (cut body 10 4),decide (((x14.toNat : Nat) : Int)=1),[],[],[],0,[]⟩)=.nil ∧ Jy (l.foldl (fun q r=>Zem r q) ⟨Qz (cut body 10 4),decide (((x14.toNat : Nat) : Int)=1),[],[],[],0,[]⟩)=b then l.foldl (fun q r=>Zem r q) ⟨Qz (cut body 10 4),decide (((x14.toNat : Nat) : Int)=1),[],[],[],0,[]⟩ else noP) ∧ (c=0 ↔ (Hu (l.foldl (fun q r=>Zem r q) ⟨Qz (cut body 10 4),decide (((x14.toNat : Nat) : Int)=1),[],[],[],0,[]⟩)=.nil ∧ Jy (l.foldl (fun q r=>Zem r q) ⟨Qz (cut body 10 4),decide (((x14.toNat : Nat) : Int)=1),[],[],[],0,[]⟩)=b))) ∧ (c=0 → e.Code=0 ∧ ¬ 2147483647 < Qz (cut body 10 4)) ∧ (c=0 ∨ c=8) ∧ (c ≠ 0 → p=noP):=fun l e hs hw=>by
    by_cases hbad : e.Code=0 ∧ ¬ 2147483647 < Qz (cut body 10 4)
    · obtain⟨hb1,hb2⟩:=hbad
      have hlo:=Zq9 ⟨Qz (cut body 10 4),decide (((x14.toNat : Nat) : Int)=1),[],[],[],0,[]⟩ ⟨rfl,rfl,rfl,rfl⟩ l (by omega)
      generalize l.foldl (fun q r=>Zem r q) ⟨Qz (cut body 10 4),decide (((x14.toNat : Nat) : Int)=1),[],[],[],0,[]⟩=p at hlo
      have base : Yi b=(Ug p).bind fun r132=>(((bif (!decide (r132.2=0)) then some true else some (!decide ((Za6 r132.1)=(Za6 b))))) : Option Bool).bind (fun q=>(Uj p) q):=by
        simp only [Yi,hO,h15,hk,chk,c6,c66,c15,d6,d15,hop,hr1,hn,hr2,hs,hb1,hb2,hx14,hlo,and_self,if_true,Option.bind_some,decide_true,decide_false,Bool.not_true,Bool.or_false,cond_false]
      by_cases hp : Hu p=.nil
      · rw [Zc9,if_pos hp] at base
        by_cases hq : Jy p=b
        · simp only [Option.bind_some,decide_true,Bool.not_true,cond_false,hq,Uj] at base
          exact⟨p,0,base,fun _=>⟨by rw [if_pos ⟨hp,hq⟩],⟨fun _=>⟨hp,hq⟩,fun _=>rfl⟩⟩,fun _=>⟨hb1,hb2⟩,.inl rfl,fun h=>absurd rfl h⟩
        · have hq' : ¬ Za6 (Jy p)=Za6 b:=fun h=>hq (Zn1.1 h)
          simp only [Option.bind_some,decide_true,Bool.not_true,cond_false,hq',decide_false,Bool.not_false,cond_true,Uj] at base
          exact⟨noP,8,base,fun _=>⟨by rw [if_neg (fun h=>hq h.2)],⟨(fun h=>by cases h),fun h=>absurd h.2 hq⟩⟩,(fun h=>by cases h),.inr rfl,fun _=>rfl⟩
      · rw [Zc9,if_neg hp] at base
        have h8 : ¬ ((8 : Int)=0):=by decide
        simp only [Option.bind_some,h8,decide_false,Bool.not_false,cond_true,Uj] at base
        exact⟨noP,8,base,fun _=>⟨by rw [if_neg (fun h=>hp h.1)],⟨(fun h=>by cases h),fun h=>absurd h.1 hp⟩⟩,(fun h=>by cases h),.inr rfl,fun _=>rfl⟩
    · have hcond : ((!decide (e.Code=0)) || decide (2147483647 < Qz (cut body 10 4)))=true:=by
        by_cases h1 : e.Code=0
        · have h2 : 2147483647 < Qz (cut body 10 4):=Classical.byContradiction fun h=>hbad ⟨h1,h⟩
          simp [h1,h2]
        · simp [h1]
      refine⟨noP,8,?_,fun h=>absurd h hbad,(fun h=>by cases h),.inr rfl,fun _=>rfl⟩
      simp only [Yi,hO,h15,hk,chk,c6,c66,c15,d6,d15,hop,hr1,hn,hr2,hs,hcond,and_self,if_true,Option.bind_some,decide_true,decide_false,Bool.not_true,cond_true,cond_false,noP]
  obtain⟨l,e,hs,hw⟩:=Zq6 (body.drop 15) (by omega)
  obtain⟨p,c,g1,g2,g3,g4,g5⟩:=fin l e hs hw
  refine⟨p,c,g1,fun hc=>⟨g5 hc,?_⟩,fun q hq hqb=>?_,fun hc=>?_⟩
  · rw [he]
    rcases g4 with h|h
    · exact absurd h hc
    · rw [h];rfl
  · have ok:=Zfx hq
    have hrl:=Zat ok
    have i0:=ok.id0;have i1:=ok.id1
    obtain⟨_,_,_,k4,k5⟩:=good q hq hqb
    have hbq:=good3 q hq hqb
    have e10 : Jx q=((Jp ++ be 1 2) ++ be (((15 + (Kx q).length + 4 : Nat)) : Int) 4) ++ (be q.Id 4 ++ (Zds q.Mobile ++ Kx q)):=by rw [e6 q];simp only [List.append_assoc]
    have l10 : ((Jp ++ be 1 2) ++ be (((15 + (Kx q).length + 4 : Nat)) : Int) 4).length=10:=by rw [List.length_append,l6,Xg]
    have c10 : cut body 10 4=be q.Id 4:=by
      rw [hbq,cut,e10,show (10 : Nat)=((Jp ++ be 1 2) ++ be (((15 + (Kx q).length + 4 : Nat)) : Int) 4).length from l10.symm,List.drop_left]
      rw [List.take_append_of_le_length (by rw [Xg];exact Nat.le_refl _),List.take_of_length_le (by rw [Xg];exact Nat.le_refl _)]
    have vid : Qz (cut body 10 4)=q.Id:=by rw [c10];exact Zd8 (m:=4294967295) (by decide) i0 (by omega) (by decide)
    have e14 : Jx q=Zf0 q ++ Kx q:=rfl
    have hd15 : body.drop 15=Kx q:=by rw [hbq,e14,show (15 : Nat)=(Zf0 q).length from (Gw q).symm,List.drop_left]
    have h14 : body[14]? = some (Zt (if q.Mobile=true then 1 else 0)):=by
      have ef : Zds q.Mobile=[Zt (if q.Mobile=true then 1 else 0)]:=by cases q.Mobile <;> rfl
      have eh : Zf0 q=(Jp ++ (be 1 2 ++ (be (((15 + (Kx q).length + 4 : Nat)) : Int) 4 ++ be q.Id 4))) ++ Zds q.Mobile:=by simp only [Zf0,List.append_assoc]
      have lh : (Jp ++ (be 1 2 ++ (be (((15 + (Kx q).length + 4 : Nat)) : Int) 4 ++ be q.Id 4))).length=14:=by simp [Jp,Xg]
      rw [hbq,e14,List.getElem?_append_left (by rw [Gw];omega),eh,List.getElem?_append_right (by omega),lh,ef]
      rfl
    have hx : x14=Zt (if q.Mobile=true then 1 else 0):=Option.some.inj (hx14.symm.trans h14)
    have hm : decide (((x14.toNat : Nat) : Int)=1)=q.Mobile:=by rw [hx];cases q.Mobile <;> rfl
    have hr15 : (body.drop 15).length ≤ 4000:=by rw [hd15];exact hrl
    have hsee : Sees ⟨body.drop 15,0,(((body.drop 15).length : Nat) : Int)⟩ ((Zen q).flatMap fun i=>Tz i.1 i.2):=⟨Zl1 _ (by omega),by
      rw [Zm5,hd15]
      simp only [cut,Int.sub_zero,Int.toNat_natCast,Int.toNat_zero,List.drop_zero]
      exact List.take_of_length_le (Nat.le_refl _)⟩
    have hit : ∀ i ∈ Zen q,1 ≤ i.1 ∧ i.1 ≤ 255 ∧ i.2.length ≤ 65535:=fun i hi=>by
      have f5 : (q.Sems.flatMap Zfa).length ≤ q.Sems.length * 1:=Wg fun x _=>by rw [Zfa,Xg];omega
      have k5':=ok.se1
      simp only [Zen,List.mem_append,List.mem_map,List.mem_cons,List.not_mem_nil,or_false] at hi
      rcases hi with ⟨x,hx,rfl⟩ | ⟨x,hx,rfl⟩ | ⟨x,hx,rfl⟩|rfl|rfl
      · have:=ok.pag x hx
        exact⟨by simp,by simp,by simp only [Zbw];omega⟩
      · exact⟨by simp,by simp,by simp only [Zbx];omega⟩
      · exact⟨by simp,by simp,by simp only [Zby];omega⟩
      · exact⟨by simp,by simp,by simp only [Xg];omega⟩
      · exact⟨by simp,by simp,by simp only;omega⟩
    have hpar:=Zie (b:=body.drop 15) (by omega) (Zen q) [] _ hit hsee rfl (by simp)
    have hO2 : Gb (body.drop 15)=some ⟨body.drop 15,0,(((body.drop 15).length : Nat) : Int)⟩:=by
      have c : (([] : List UInt8).length + (body.drop 15).length) * 1 ≤ 140737488355328:=by simp only [List.length_nil];omega
      simp only [Gb,chk,c,if_true,List.nil_append]
    have en : Uz=some ⟨0,-1⟩:=rfl
    have hsp : Ui (body.drop 15)=some ((Zen q).map fun i=>⟨i.1,i.2⟩,⟨0,-1⟩):=by
      simp only [Zox,List.nil_append] at hpar
      simp only [Ui,hO2,hpar,en,Option.bind_some]
    have hle:=hs.symm.trans hsp
    have e1 : l=(Zen q).map fun i=>⟨i.1,i.2⟩:=congrArg Prod.fst (Option.some.inj hle)
    have e2 : e=⟨0,-1⟩:=congrArg Prod.snd (Option.some.inj hle)
    have hfold:=Zm6 ok
    obtain⟨f1,f2⟩:=g2 ⟨by rw [e2],by rw [vid];omega⟩
    rw [e1,vid,hm,hfold] at f1 f2
    rw [if_pos ⟨hq,hqb⟩] at f1
    exact⟨f1,f2.2 ⟨hq,hqb⟩⟩
  · obtain⟨f1,f2⟩:=g2 (g3 hc)
    have f3:=f2.1 hc
    rw [if_pos f3] at f1
    rw [f1]
    exact⟨he,f3⟩
theorem Zm7 (b : List UInt8) (hb : b.length ≤ 140737488355328) : ∃ p e c,Jh b=some (p,e) ∧ Yi b=some (p,c) ∧ Kk e c=some true:=by
  obtain⟨p,e,h1,h2,h3,h4⟩:=Zir b hb
  obtain⟨p',c,g1,g2,g3,g4⟩:=Zko b hb
  have hp : ErrM.place e=-1:=by
    rcases h2 with rfl | ⟨g,rfl⟩ <;> rfl
  have same : e.code=c → Kk e c=some true:=fun h=>by
    simp only [Kk,h,hp,decide_true,cond_true]
  by_cases hc : e.code=0
  · obtain⟨k1,k2,k3⟩:=h4.ok hc
    obtain⟨m1,m2⟩:=g3 p k2 k3
    exact⟨p,e,c,h1,by rw [g1,m1],same (by rw [hc,m2])⟩
  · obtain⟨k1,k2⟩:=h4.bad hc
    by_cases hc' : c=0
    · obtain⟨m1,m2,m3⟩:=g4 hc'
      have:=Ziq m2
      rw [m3,h1] at this
      have he : e=.nil:=congrArg Prod.snd (Option.some.inj this)
      exact absurd (by rw [he];decide) hc
    · obtain⟨m1,m2⟩:=g2 hc'
      exact⟨p,e,c,h1,by rw [g1,m1,k1],same (by rw [k2,m2])⟩
theorem Zif (x : GL10Case) (hP : Zkf x.P) (hB : x.B.length ≤ 140737488355328) : Ws x=some true:=by
  have rd : ∀ (r29 : List UInt8 × Int),r29.1.length ≤ 140737488355328 → Vj (Ji x r29) 0=some (.inl ()):=fun r29 hr=>by
    have st : ∀ (i : Nat) (b : List UInt8),i < 2 → [x.B,r29.1][i]? = some b → b.length ≤ 140737488355328 → Ji x r29 i=some (.inl (i + 1)):=fun i b hi hx hb=>by
      obtain⟨p,e,c,h1,h2,h3⟩:=Zm7 b hb
      have c1 : (([] : List UInt8).length + b.length) * 1 ≤ 140737488355328:=by simp only [List.length_nil];omega
      simp only [Ji,Wf,hi,hx,h2,chk,c1,if_true,List.nil_append,h1,h3,Zqq,decide_true,Bool.not_true,cond_true,cond_false,Option.bind_some]
    rw [Xi (st 0 x.B (by omega) rfl hB),Xi (st 1 r29.1 (by omega) rfl hr)]
    exact Ka (by simp only [Ji,show ¬ (1 + 1 : Nat) < 2 by omega,decide_false,cond_false])
  by_cases h : Hu x.P=.nil
  · have hrl:=Zat (Zfx h)
    have hlen:=Zgl x.P
    have s0 : Kk .nil 0=some true:=by simp [Kk,cNil,pNil]
    have rd':=rd (Jy x.P,0) (by simp only;omega)
    simp only [Ws,Yd,Yc,Zh6,Zc9,Zq5,h,Zlx x.P hP,Zc7 h,Zq2 h,s0,rd',if_true,decide_true,Bool.not_true,cond_false,Option.bind_some]
  · have s8 : Kk (.v Hr) 8=some true:=by simp [Kk,cPlan,pV]
    have hsum : Zad x.P=some (0,.v Hr):=by
      have hv : ¬ (ErrM.v Hr=ErrM.nil):=fun h=>by cases h
      simp only [Zad,Ze6 h,Option.bind_some,hv,decide_false,Bool.not_false,cond_true]
    have rd':=rd ([],8) (by simp)
    simp only [Ws,Yd,Yc,Zh6,Zc9,Zq5,h,Zlx x.P hP,Ze6 h,hsum,s8,rd',if_false,decide_true,Bool.not_true,cond_false,Option.bind_some]
end Go.Proofs.YtfemfiiagjnhdaaGreatDoor
