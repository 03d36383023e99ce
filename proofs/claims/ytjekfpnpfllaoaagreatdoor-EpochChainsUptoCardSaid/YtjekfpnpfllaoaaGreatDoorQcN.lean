/- Part of a claim, shortened by a program from its texts: ChainLEc. -/
import Derived.Test.YtjekfpnpfllaoaaGreatDoorQcM
set_option linter.unusedVariables false
set_option linter.unusedSimpArgs false
set_option linter.unusedSectionVars false
namespace Go.Proofs.YtjekfpnpfllaoaaGreatDoor
open Go Go.RowKit
theorem Zh9 {α : Type} {q : α → Bool} : ∀ {l : List α} {k : Nat},(∀ x ∈ l,q x=false) → Zd9 q k l=[]
  | [],_,_=>rfl
  | y :: r,k,h=>by
    rw [Zd9,h y (List.mem_cons_self ..),Zh9 fun x hx=>h x (List.mem_cons_of_mem _ hx)];rfl
theorem Zia {α : Type} {q : α → Bool} : ∀ {l : List α} {k : Nat} {n : Int},n ∈ Zd9 q k l ↔ ∃ i x,l[i]? = some x ∧ q x=true ∧ n=((k + i : Nat) : Int)
  | [],_,_=>by simp [Zd9]
  | y :: r,k,n=>by
    rw [Zd9,List.mem_append,Zia];constructor
    · rintro (h | ⟨i,x,h1,h2,h3⟩)
      · split at h
        · next hq=>rw [List.mem_singleton] at h;exact⟨0,y,rfl,hq,by simpa using h⟩
        · cases h
      · exact⟨i + 1,x,by simpa using h1,h2,by rw [h3];congr 1;omega⟩
    · rintro ⟨i,x,h1,h2,h3⟩
      cases i with
      | zero=>
        have : y=x:=by simpa using h1
        subst this;left;rw [if_pos h2,h3];simp
      | succ j=>right;exact⟨j,x,by simpa using h1,h2,by rw [h3];congr 1;omega⟩
theorem Zsl {α : Type} {q : α → Bool} {l : List α} {k : Nat} {n : Int} (h : n ∈ Zd9 q k l) : (k : Int) ≤ n:=by
  obtain⟨i,x,_,_,rfl⟩:=Zia.1 h;omega
theorem Zny {α : Type} (q : α → Bool) : ∀ (l : List α) (k : Nat),(Zd9 q k l).Pairwise (· < ·)
  | [],_=>by simp [Zd9]
  | y :: r,k=>by
    rw [Zd9,List.pairwise_append];refine⟨by split <;> simp,Zny q r (k + 1),fun a ha b hb=>?_⟩;have:=Zsl hb;split at ha
    · rw [List.mem_singleton] at ha;omega
    · cases ha
theorem Zvy {l : List Int} (h : l.Pairwise (· < ·)) {i j : Nat} {x y : Int} (hi : l[i]? = some x) (hj : l[j]? = some y) (hij : i < j) : x < y:=by
  rw [List.pairwise_iff_getElem] at h;obtain⟨h1,rfl⟩:=List.getElem?_eq_some_iff.1 hi;obtain⟨h2,rfl⟩:=List.getElem?_eq_some_iff.1 hj;exact h i j h1 h2 hij
theorem Zo4 {ps : List GPage} : ∀ {l : List Int},(∀ n ∈ l,∃ x,rdI ps n=some x) → (Zmt ps l).length=l.length ∧ ∀ (k : Nat) n x,l[k]? = some n → rdI ps n=some x → (Zmt ps l)[k]? = some (Ub x)
  | [],_=>⟨rfl,fun k n x h=>by simp at h⟩
  | m :: r,h=>by
    obtain⟨y,hy⟩:=h m (List.mem_cons_self ..);obtain⟨h1,h2⟩:=Zo4 (l:=r) fun n hn=>h n (List.mem_cons_of_mem _ hn)
    have e : Zmt ps (m :: r)=Ub y :: Zmt ps r:=by simp [Zmt,hy]
    rw [e];refine⟨by simp [h1],fun k n x hk hx=>?_⟩;cases k with
    | zero=>
      have : m=n:=by simpa using hk
      subst this;rw [hy] at hx;cases hx;rfl
    | succ j=>simpa using h2 j n x (by simpa using hk) hx
theorem Zpp (ps : List GPage) : ∀ n ∈ Zd9 GPage.Dirty 0 ps,∃ x,rdI ps n=some x:=fun n hn=>by
  obtain⟨i,x,h1,_,rfl⟩:=Zia.1 hn;exact⟨x,by rw [Nat.zero_add,Zhc];exact h1⟩
theorem Zsm {p : GPlan} {s : GState} (ok : OkS s) (h : atE p s=.nil) : Yw p s=some (Zd9 GPage.Dirty 0 s.Pages,.nil):=by
  have h1:=Zns (p:=p) ok;rw [h] at h1;simp only [Yw,h1,Zcp _ ok.f,decide_true,Bool.not_true,cond_false,Option.bind_some]
theorem partS {p : GPlan} {s : GState} (ok : OkS s) (h : atE p s=.nil) : Zb9 p s=some (bare s,Zd9 GPage.Dirty 0 s.Pages,Zmt s.Pages (Zd9 GPage.Dirty 0 s.Pages),.nil):=by
  have k1:=Zt2 (L:=Us s (Zd9 GPage.Dirty 0 s.Pages,.nil)) ok (fun z i n x hi hx hr hz=>by
    have c : (z.length + [(⟨x.Rights,false,x.Data⟩ : GPage)].length) * 80 ≤ 140737488355328:=by simpa using hz
    simp only [Us,hi,hx,hr,chk,c,Ub,if_true,decide_true,cond_true,Option.bind_some]) (fun z=>by simp [Us])
  simp only [Zb9,Zsm ok h,k1,bare,Zfq ok,decide_true,Bool.not_true,cond_false,Option.bind_some]
def OvP (b l : List GPage) : Prop:=l.length=b.length ∧ ∀ (j : Nat) y,l[j]? = some y → ∃ x,b[j]? = some x ∧ y.Rights=x.Rights ∧ (y.Dirty=false → y.Data=x.Data)
def ClP (l : List GPage) : Prop:=∀ x ∈ l,x.Dirty=false
theorem sinceS {p : GPlan} {b s : GState} (okb : OkS b) (ok : OkS s) (hb : atE p b=.nil) (hs : atE p s=.nil) (hd : ClP b.Pages) (he : b.Epoch=s.Epoch) (ov : OvP b.Pages s.Pages) : Wx p b s=some (true,.nil):=by
  have h1:=Zsj (p:=p) okb ok;rw [hb,hs,show orE ErrM.nil ErrM.nil=ErrM.nil from rfl] at h1;have w1 : Kr b.Pages=some []:=by rw [Zcp _ okb.f,Zh9 hd]
  have h0 : ¬ (0 < ([] : List Int).length):=by decide
  have hL:=Ws (L:=Xi b s) (fun i=>i ≤ s.Pages.length) (fun r=>r=.inl ()) (fun i=>s.Pages.length - i) (fun i hi=>by
    by_cases hlt : i < s.Pages.length
    · have hx : s.Pages[i]? = some s.Pages[i]:=List.getElem?_eq_getElem hlt
      generalize s.Pages[i]=x at hx
      obtain⟨y,hy,_,hdat⟩:=ov.2 i x hx;refine .inl ⟨i + 1,?_,by omega,by omega⟩
      rcases Bool.eq_false_or_eq_true x.Dirty with d|d
      · simp only [Xi,Gy,hlt,hx,d,decide_true,Bool.not_true,cond_true,cond_false,Option.bind_some]
      · simp only [Xi,Gy,hlt,hx,hy,d,hdat d,decide_true,Bool.not_true,Bool.not_false,cond_true,cond_false,Option.bind_some]
    · exact .inr ⟨_,by simp only [Xi,hlt,decide_false,cond_false],rfl⟩) (s:=0) (Nat.zero_le _)
  obtain⟨_,hL,rfl⟩:=hL;simp only [Wx,Gz,h1,w1,h0,he,hL,decide_true,decide_false,Bool.not_true,cond_false,Option.bind_some]
theorem Zho {p : GPlan} {b : GState} (h : atE p b=.nil) {j : Nat} {y : GPage} (hy : b.Pages[j]? = some y) : ∃ z,p.Pages[j]? = some z ∧ y.Rights=z.Rights:=by
  have hl:=Zdf h;have hj : j < p.Pages.length:=by rw [← hl];exact (List.getElem?_eq_some_iff.1 hy).1
  have hz : p.Pages[j]? = some p.Pages[j]:=List.getElem?_eq_getElem hj;refine⟨_,hz,?_⟩;have hk:=(Znt h).2;unfold K13 at hk;rw [List.all_eq_true] at hk;have hm : (p.Pages[j],y) ∈ p.Pages.zip b.Pages:=by
    apply List.mem_of_getElem? (i:=j);rw [List.getElem?_zip_eq_some];exact⟨hz,hy⟩
  have:=hk _ hm;simp only [decide_eq_true_eq] at this;exact this.symm
theorem K13_of {p : GPlan} {s : GState} (h : ∀ (j : Nat) y,s.Pages[j]? = some y → ∃ z,p.Pages[j]? = some z ∧ y.Rights=z.Rights) : K13 p s=true:=by
  unfold K13;rw [List.all_eq_true];intro x hx;obtain⟨j,hj⟩:=List.getElem?_of_mem hx;rw [List.getElem?_zip_eq_some] at hj;obtain⟨z,h1,h2⟩:=h j x.2 hj.2;rw [hj.1] at h1;cases h1
  simp only [decide_eq_true_eq];exact h2.symm
theorem Zsn : ∀ (l : List Bool) (k : Nat),(∀ b ∈ l,b=true) → brk k l=[]
  | [],_,_=>rfl
  | x :: r,k,h=>by rw [brk,if_pos (h x (List.mem_cons_self ..)),Zsn r (k + 1) fun b hb=>h b (List.mem_cons_of_mem _ hb)];rfl
theorem at_of {p : GPlan} {t : GState} (h : atE p t=.nil) {E : Int} (h0 : 0 ≤ E) (h1 : E ≤ 2147483647) {l : List GPage} (hl : l.length=p.Pages.length) (hr : ∀ (j : Nat) y,l[j]? = some y → ∃ z,p.Pages[j]? = some z ∧ y.Rights=z.Rights) :
    atE p ⟨t.Id,t.Frame,E,t.Procs,t.Ready,t.Timers,t.Up,t.Sems,t.Ports,l⟩=.nil:=by
  obtain⟨hp,hf⟩:=Zkb h;unfold atE;rw [if_neg (fun c=>c hp),if_pos];unfold Wi at hf ⊢;rw [if_neg (fun c=>c hp)] at hf ⊢;have hk:=Zoy _ _ hf;apply Zsn;intro b hb;have g : ∀ x ∈ [K1 p t,K2 t,K3 p t,K4 t,K5 t,K6 p t,K7 t,K8 t,K9 t,K10 t,K11 p t,K12 p t,K13 p t,K14 p t,K15 p t,K16 p t,K17 p t],x=true:=fun x hx=>hk x (by simpa [Zim] using hx)
  have hb' : b ∈ [K1 p t,(bt t.Frame 0 2147483647 && bt E 0 2147483647),K3 p ⟨t.Id,t.Frame,E,t.Procs,t.Ready,t.Timers,t.Up,t.Sems,t.Ports,l⟩,K4 t,K5 t,K6 p t,K7 t,K8 t,K9 t,K10 t,K11 p t,K12 p t,K13 p ⟨t.Id,t.Frame,E,t.Procs,t.Ready,t.Timers,t.Up,t.Sems,t.Ports,l⟩,K14 p t,K15 p t,K16 p t,K17 p t]:=by
    have : (Zim p ⟨t.Id,t.Frame,E,t.Procs,t.Ready,t.Timers,t.Up,t.Sems,t.Ports,l⟩).toList=[K1 p t,(bt t.Frame 0 2147483647 && bt E 0 2147483647),K3 p ⟨t.Id,t.Frame,E,t.Procs,t.Ready,t.Timers,t.Up,t.Sems,t.Ports,l⟩,K4 t,K5 t,K6 p t,K7 t,K8 t,K9 t,K10 t,K11 p t,K12 p t,K13 p ⟨t.Id,t.Frame,E,t.Procs,t.Ready,t.Timers,t.Up,t.Sems,t.Ports,l⟩,K14 p t,K15 p t,K16 p t,K17 p t]:=rfl;rw [← this];exact hb
  have k2 : (bt t.Frame 0 2147483647 && bt E 0 2147483647)=true:=by
    have:=g (K2 t) (by simp);unfold K2 at this;rw [Bool.and_eq_true] at this ⊢;refine⟨this.1,?_⟩;unfold bt;simp only [h0,h1,decide_true,Bool.and_self]
  have k3 : K3 p ⟨t.Id,t.Frame,E,t.Procs,t.Ready,t.Timers,t.Up,t.Sems,t.Ports,l⟩=true:=by
    have h3:=g (K3 p t) (by simp);have hlt:=Zdf h;unfold K3 at h3 ⊢;simp only [Bool.and_eq_true,decide_eq_true_eq] at h3 ⊢;refine⟨⟨⟨⟨?_,?_⟩,?_⟩,?_⟩,?_⟩ <;> first | exact hl | omega
  have k13:=K13_of (p:=p) (s:=⟨t.Id,t.Frame,E,t.Procs,t.Ready,t.Timers,t.Up,t.Sems,t.Ports,l⟩) hr;simp only [List.mem_cons,List.not_mem_nil,or_false] at hb' g
  rcases hb' with rfl|rfl|rfl|rfl|rfl|rfl|rfl|rfl|rfl|rfl|rfl|rfl|rfl|rfl|rfl|rfl|rfl
  all_goals first | exact k2 | exact k3 | exact k13 | exact g _ (by simp)
theorem fitS {p : GPlan} {s : GState} (hs : atE p s=.nil) : Zam p (bare s) (Zd9 GPage.Dirty 0 s.Pages) (Zmt s.Pages (Zd9 GPage.Dirty 0 s.Pages))=some true:=by
  have hr:=Zpp s.Pages
  generalize hI : Zd9 GPage.Dirty 0 s.Pages=idx at hr
  have hp : idx.Pairwise (· < ·):=by rw [← hI];exact Zny _ _ _
  have hge : ∀ n ∈ idx,0 ≤ n:=fun n hn=>by rw [← hI] at hn;exact Zsl hn
  obtain⟨c1,c2⟩:=Zo4 hr;have hc : ((!decide (idx.length=(Zmt s.Pages idx).length)) || decide (0 < (bare s).Pages.length))=false:=by
    rw [c1];simp [bare]
  have hL:=Ws (L:=Kx p idx (Zmt s.Pages idx)) (fun t=>t.2 ≤ idx.length ∧ (t.2=0 → t.1=-1) ∧ (0 < t.2 → idx[t.2 - 1]? = some t.1)) (fun r=>r=.inl ()) (fun t=>idx.length - t.2) (fun t hi=>by
    obtain⟨z,i⟩:=t;obtain⟨h1,h2,h3⟩:=hi;simp only at h1 h2 h3
    by_cases hlt : i < idx.length
    · have hx : idx[i]? = some idx[i]:=List.getElem?_eq_getElem hlt;have hm:=List.getElem_mem hlt
      generalize idx[i]=x at hx hm
      obtain⟨y,hy⟩:=hr x hm;have hg:=c2 i x y hx hy;have hx0:=hge x hm;obtain⟨n0,n1,hy'⟩:=Qh hy;have hlp:=Zdf hs;obtain⟨w,hw,hq⟩:=Zho hs hy';have hrw : rdI p.Pages x=some w:=by unfold rdI;rw [if_pos n0];exact hw
      have z1 : ¬ x ≤ z:=by
        by_cases h0 : i=0
        · have:=h2 h0;omega
        · have:=Zvy hp (h3 (by omega)) hx (by omega);omega
      have z2 : ¬ ((p.Pages.length : Nat) : Int) ≤ x:=by omega
      have d : (Ub y).Dirty=false:=rfl;have q : (Ub y).Rights=w.Rights:=hq;refine .inl ⟨(x,i + 1),?_,⟨by simp only;omega,fun h=>by simp at h,fun _=>by simpa using hx⟩,by simp only;omega⟩;simp only [Kx,Za2,hlt,hx,hg,hrw,z1,z2,d,q,decide_true,decide_false,Bool.not_true,cond_true,cond_false,Option.bind_some]
    · exact .inr ⟨_,by simp only [Kx,hlt,decide_false,cond_false],rfl⟩) (s:=(-1,0)) ⟨Nat.zero_le _,fun _=>rfl,fun h=>by simp at h⟩
  obtain⟨_,hL,rfl⟩:=hL;simp only [Zam,hc,hL,cond_false,Option.bind_some]
theorem overS {b s : GState} (hd : ClP b.Pages) (ov : OvP b.Pages s.Pages) : Kq (Ks (Zd9 GPage.Dirty 0 s.Pages) (Zmt s.Pages (Zd9 GPage.Dirty 0 s.Pages))) (0,b.Pages)=some (s.Pages.map Ub):=by
  have hr:=Zpp s.Pages;have hmem : ∀ (j : Nat) y,s.Pages[j]? = some y → y.Dirty=true → ((j : Nat) : Int) ∈ Zd9 GPage.Dirty 0 s.Pages:=fun j y hy hq=>Zia.2 ⟨j,y,hy,hq,by rw [Nat.zero_add]⟩
  generalize hI : Zd9 GPage.Dirty 0 s.Pages=idx at hr hmem
  obtain⟨c1,c2⟩:=Zo4 hr;have hL:=Ws (L:=Ks idx (Zmt s.Pages idx)) (fun t=>t.1 ≤ idx.length ∧ t.2.length=s.Pages.length ∧ ∀ (j : Nat) y x,s.Pages[j]? = some y → b.Pages[j]? = some x → t.2[j]? = some (if ((j : Nat) : Int) ∈ idx.take t.1 then Ub y else x)) (fun r=>r=s.Pages.map Ub) (fun t=>idx.length - t.1) (fun t hi=>by
    obtain⟨i,l⟩:=t;obtain⟨h1,h2,h3⟩:=hi;simp only at h1 h2 h3
    by_cases hlt : i < idx.length
    · have hx : idx[i]? = some idx[i]:=List.getElem?_eq_getElem hlt;have hm:=List.getElem_mem hlt
      generalize idx[i]=n at hx hm
      obtain⟨y,hy⟩:=hr n hm;have hg:=c2 i n y hx hy;obtain⟨n0,n1,hy'⟩:=Qh hy;have hj : n.toNat < l.length:=by rw [h2];omega
      have hv : l[n.toNat]? = some l[n.toNat]:=List.getElem?_eq_getElem hj
      generalize l[n.toNat]=v at hv
      have hrl : rdI l n=some v:=by unfold rdI;rw [if_pos n0];exact hv
      refine .inl ⟨(i + 1,l.set n.toNat (Ub y)),?_,⟨by simp only;omega,by simp only [List.length_set];exact h2,fun j u x hu hx2=>?_⟩,by simp only;omega⟩
      · simp only [Ks,hlt,hx,hg,hrl,decide_true,cond_true,Option.bind_some]
      · simp only;rw [Ze2 hx]
        by_cases e : n.toNat=j
        · subst e;rw [hy'] at hu;cases hu
          rw [List.getElem?_set_self hj,if_pos];rw [List.mem_append,List.mem_singleton];right;omega
        · rw [List.getElem?_set_ne e,h3 j u x hu hx2];have : (((j : Nat) : Int) ∈ idx.take i ++ [n]) ↔ ((j : Nat) : Int) ∈ idx.take i:=by
            rw [List.mem_append,List.mem_singleton];constructor
            · rintro (h | h)
              · exact h
              · exact absurd (show n.toNat=j by omega) e
            · exact Or.inl
          simp only [this]
    · obtain rfl : i=idx.length:=by omega
      refine .inr ⟨l,by simp only [Ks,hlt,decide_false,cond_false],?_⟩;rw [List.take_length] at h3;apply List.ext_getElem?;intro j
      by_cases hj : j < s.Pages.length
      · have hy : s.Pages[j]? = some s.Pages[j]:=List.getElem?_eq_getElem hj
        generalize s.Pages[j]=y at hy
        obtain⟨x,hx,q1,q2⟩:=ov.2 j y hy;rw [h3 j y x hy hx,List.getElem?_map,hy,Option.map_some]
        by_cases hq : y.Dirty=true
        · rw [if_pos (hmem j y hy hq)]
        · have hq : y.Dirty=false:=Bool.eq_false_iff.2 hq;split
          · rfl
          · have hxd:=hd x (List.mem_of_getElem? hx);unfold Ub;rw [q1,q2 hq,← hxd]
      · rw [List.getElem?_eq_none (by omega),List.getElem?_eq_none (by simp;omega)]) (s:=(0,b.Pages)) ⟨Nat.zero_le _,ov.1.symm,fun j y x _ hx=>by simp [hx]⟩
  obtain⟨_,hL,rfl⟩:=hL;exact hL
theorem Zmr {p : GPlan} {s : GState} (hs : atE p s=.nil) (h0 : 0 ≤ s.Epoch) (h1 : s.Epoch < 2147483647) : atE p (mkS s)=.nil:=by
  have hw : IntKind.i64.wrap (s.Epoch + 1)=s.Epoch + 1:=Jw (by constructor <;> omega);unfold mkS;rw [hw];refine at_of hs (by omega) (by omega) (by rw [List.length_map];exact Zdf hs) fun j y hy=>?_
  rw [List.getElem?_map] at hy;cases hx : s.Pages[j]? with
  | none=>rw [hx] at hy;cases hy
  | some x=>
    rw [hx] at hy;cases hy
    obtain⟨z,g1,g2⟩:=Zho hs hx;exact⟨z,g1,g2⟩
theorem okMk {s : GState} (ok : OkS s) : OkS (mkS s):=by
  obtain⟨a1,a2,a3,a4,a5,a6,a7,a8⟩:=ok;exact⟨a1,a2,a3,a4,a5,by simp only [mkS,List.length_map];exact a6,a7,a8⟩
theorem okBare {s : GState} (ok : OkS s) : OkS (bare s):=by
  obtain⟨a1,a2,a3,a4,a5,a6,a7,a8⟩:=ok;exact⟨a1,a2,a3,a4,a5,by simp [bare],a7,a8⟩
theorem layS {p : GPlan} {b s : GState} (okb : OkS b) (ok : OkS s) (hb : atE p b=.nil) (hs : atE p s=.nil) (hd : ClP b.Pages) (he : b.Epoch=s.Epoch) (h0 : 0 ≤ s.Epoch) (h1 : s.Epoch < 2147483647) (ov : OvP b.Pages s.Pages) :
    Ta p b (bare s) (Zd9 GPage.Dirty 0 s.Pages) (Zmt s.Pages (Zd9 GPage.Dirty 0 s.Pages))=some (mkS s,.nil):=by
  have c1:=Zns (p:=p) okb;rw [hb] at c1;have w1 : Kr b.Pages=some []:=by rw [Zcp _ okb.f,Zh9 hd]
  have z0 : ¬ (0 < ([] : List Int).length):=by decide
  have q : (bare s).Epoch=b.Epoch:=he.symm;have m : ¬ (bare s).Epoch=2147483647:=by show ¬ s.Epoch=2147483647;omega
  have hbf:=okb.f;have hc : Gr b.Pages=some b.Pages:=by
    have c : (([] : List GPage).length + b.Pages.length) * 80 ≤ 140737488355328:=by simp only [List.length_nil];omega
    simp only [Gr,Jf,chk,c,if_true,List.nil_append,Option.bind_some]
  have hm:=Zmr hs h0 h1;have hr:=Zin p (mkS s) (okMk ok).sm.1;rw [Zpm,if_neg (fun c=>c (Zkb hm).1),(Zkb hm).2] at hr;have hx : (⟨(bare s).Id,(bare s).Frame,IntKind.i64.wrap ((bare s).Epoch + 1),(bare s).Procs,(bare s).Ready,(bare s).Timers,(bare s).Up,(bare s).Sems,(bare s).Ports,s.Pages.map Ub⟩ : GState)=mkS s:=rfl;simp only [Ta,Zab,c1,w1,z0,q.symm,m,fitS hs,Zfq (okBare ok),hc,overS hd ov,hx,hr,decide_true,decide_false,Bool.not_true,cond_false,Option.bind_some]
theorem Zt4 {p : GPlan} {b s : GState} (okb : OkS b) (ok : OkS s) (hb : atE p b=.nil) (hs : atE p s=.nil) (ov : OvP b.Pages s.Pages) : ∃ l,Tb p b s=some (l,.nil) ∧ ∀ n ∈ l,n ∈ Zd9 GPage.Dirty 0 s.Pages:=by
  have h1:=Zsj (p:=p) okb ok;rw [hb,hs,show orE ErrM.nil ErrM.nil=ErrM.nil from rfl] at h1;have hl : b.Pages.length=s.Pages.length:=ov.1.symm;have hf:=okb.f;have hL:=Ws (L:=Vf b.Pages s.Pages) (fun t=>t.2 ≤ b.Pages.length ∧ t.1.length ≤ t.2 ∧ ∀ n ∈ t.1,n ∈ Zd9 GPage.Dirty 0 s.Pages) (fun r=>∀ n ∈ r,n ∈ Zd9 GPage.Dirty 0 s.Pages) (fun t=>b.Pages.length - t.2) (fun t hI=>by
    obtain⟨z,i⟩:=t;obtain⟨hi,hz,hz2⟩:=hI;simp only at hi hz hz2
    by_cases hlt : i < b.Pages.length
    · have hx : b.Pages[i]? = some b.Pages[i]:=List.getElem?_eq_getElem hlt;have hy : s.Pages[i]? = some (s.Pages[i]'(by omega)):=List.getElem?_eq_getElem _
      generalize b.Pages[i]=x at hx
      generalize s.Pages[i]=y at hy
      by_cases q : x.Data=y.Data
      · exact .inl ⟨(z,i + 1),by simp only [Vf,Hb,hlt,hx,hy,q,decide_true,Bool.not_true,cond_true,cond_false,Option.bind_some],⟨by simp only;omega,by simp only;omega,hz2⟩,by simp only;omega⟩
      · have c : (z.length + [((i : Nat) : Int)].length) * 8 ≤ 140737488355328:=by simp only [List.length_singleton];omega
        refine .inl ⟨(z ++ [((i : Nat) : Int)],i + 1),by simp only [Vf,Hb,hlt,hx,hy,q,chk,c,if_true,decide_true,decide_false,Bool.not_false,cond_true,Option.bind_some],⟨by simp only;omega,by simp;omega,fun n hn=>?_⟩,by simp only;omega⟩;rw [List.mem_append,List.mem_singleton] at hn
        rcases hn with hn|rfl
        · exact hz2 n hn
        · obtain⟨x2,hx2,_,hdat⟩:=ov.2 i y hy;rw [hx] at hx2;cases hx2
          rcases Bool.eq_false_or_eq_true y.Dirty with d|d
          · exact Zia.2 ⟨i,y,hy,d,by rw [Nat.zero_add]⟩
          · exact absurd (hdat d).symm q
    · exact .inr ⟨z,by simp only [Vf,hlt,decide_false,cond_false],hz2⟩) (s:=([],0)) ⟨Nat.zero_le _,Nat.le_refl _,fun n h=>by cases h⟩
  obtain⟨l,hL,hm⟩:=hL;exact⟨l,by simp only [Tb,Zc6,h1,hl,hL,decide_true,Bool.not_true,cond_false,Option.bind_some],hm⟩
theorem Zvz {a d : List Int} (h : ∀ n ∈ a,n ∈ d) : Zac a d=some true:=by
  have hin : ∀ (i : Nat) n,a[i]? = some n → Kq (Kk a d i) (false,0)=some true:=fun i n hn=>by
    have hm:=h n (List.mem_of_getElem? hn);have hL:=Ws (L:=Kk a d i) (fun t=>t.2 ≤ d.length ∧ (t.1=true ∨ n ∉ d.take t.2)) (fun r=>r=true) (fun t=>d.length - t.2) (fun t hI=>by
      obtain⟨q,j⟩:=t;obtain⟨hj,hq⟩:=hI;simp only at hj hq
      by_cases hlt : j < d.length
      · have hx : d[j]? = some d[j]:=List.getElem?_eq_getElem hlt
        generalize d[j]=x at hx
        cases q with
        | true=>exact .inl ⟨(true,j + 1),by simp only [Kk,Gi,hlt,decide_true,cond_true,Option.bind_some],⟨by simp only;omega,.inl rfl⟩,by simp only;omega⟩
        | false=>
          refine .inl ⟨(decide (n=x),j + 1),by simp only [Kk,Gi,hlt,hn,hx,decide_true,cond_true,cond_false,Option.bind_some],⟨by simp only;omega,?_⟩,by simp only;omega⟩
          simp only
          by_cases e : n=x
          · left;exact decide_eq_true e
          · right;rw [Ze2 hx,List.mem_append,List.mem_singleton]
            rintro (h2 | h2)
            · rcases hq with hq | hq
              · cases hq
              · exact hq h2
            · exact e h2
      · obtain rfl : j=d.length:=by omega
        refine .inr ⟨q,by simp only [Kk,hlt,decide_false,cond_false],?_⟩
        rw [List.take_length] at hq
        rcases hq with hq|hq
        · exact hq
        · exact absurd hm hq) (s:=(false,0)) ⟨Nat.zero_le _,.inr (by simp)⟩
    obtain⟨_,hL,rfl⟩:=hL;exact hL
  have hL:=Zbn (L:=Ve a d) (l:=a) (fun i x hi hx=>by
    simp only [Ve,hi,hin i x hx,decide_true,cond_true,Option.bind_some,Bool.not_true,cond_false]) (by simp [Ve])
  simp only [Zac,hL,Option.bind_some]
theorem Zjf (z : Int) : IntKind.u64.wrap z=z % 18446744073709551616:=by simp [IntKind.wrap,IntKind.signed,IntKind.bits]
theorem at_in (k : Int) {n : Nat} (h0 : 0 < n) (h1 : n ≤ 4294967296) : ∃ i : Nat,i < n ∧ IntKind.i64.wrap (Int.tmod (IntKind.u64.wrap k) (IntKind.u64.wrap ((n : Nat) : Int)))=((i : Nat) : Int):=by
  have e : IntKind.u64.wrap ((n : Nat) : Int)=((n : Nat) : Int):=by rw [Zjf];omega
  have p0 : 0 ≤ IntKind.u64.wrap k:=by rw [Zjf];omega
  have m0 : 0 ≤ Int.tmod (IntKind.u64.wrap k) ((n : Nat) : Int):=Int.tmod_nonneg _ p0;have m1 : Int.tmod (IntKind.u64.wrap k) ((n : Nat) : Int) < ((n : Nat) : Int):=Int.tmod_lt_of_pos _ (by omega);rw [e]
  generalize Int.tmod (IntKind.u64.wrap k) ((n : Nat) : Int)=m at m0 m1
  refine⟨m.toNat,by omega,?_⟩;rw [Jw (by constructor <;> omega)];omega
def WrOk (ws : List GL17Write) : Prop:=ws.length ≤ 1048576 ∧ ∀ w ∈ ws,0 ≤ w.Byte ∧ w.Byte < 256
theorem laterS {b t : GState} (okb : OkS b) (ok : OkS t) (hbl : b.Pages.length ≤ 32) {ws : List GL17Write} (hw : WrOk ws) : ∃ l,Zbi b t ws=some ⟨t.Id,t.Frame,b.Epoch,t.Procs,t.Ready,t.Timers,t.Up,t.Sems,t.Ports,l⟩ ∧ OvP b.Pages l:=by
  have hbf:=okb.f;have c : (([] : List GPage).length + b.Pages.length) * 80 ≤ 140737488355328:=by simp only [List.length_nil];omega
  have h64 : IntKind.u64.wrap (((64 : Nat) : Int))=64:=by rw [Zjf];rfl
  have hL:=Ws (L:=Vg ws) (fun t=>∃ i : Nat,t.1=((i : Nat) : Int) ∧ i ≤ ws.length ∧ OvP b.Pages t.2) (fun r=>OvP b.Pages r) (fun t=>(((ws.length : Nat) : Int) - t.1).toNat) (fun t hI=>by
    obtain⟨z,l⟩:=t;obtain⟨i,rfl,hi,hov⟩:=hI;simp only at hi hov ⊢
    by_cases hlt : i < ws.length
    · by_cases hl : 0 < l.length
      · have hll : l.length ≤ 32:=by rw [hov.1];exact hbl
        have hx : ws[i]? = some ws[i]:=List.getElem?_eq_getElem hlt;have hm:=List.getElem_mem hlt
        generalize ws[i]=x at hx hm
        have hxr : rdI ws ((i : Nat) : Int)=some x:=by rw [Zhc];exact hx
        obtain⟨k,hk,ek⟩:=at_in x.Page hl (by omega);obtain⟨j,hj,ej⟩:=at_in x.At (show 0 < 64 by decide) (by decide);rw [h64] at ej;have hne : (IntKind.u64.wrap ((l.length : Nat) : Int)) ≠ 0:=by rw [Zjf];omega
        have hv : l[k]? = some l[k]:=List.getElem?_eq_getElem hk
        generalize l[k]=y at hv
        have hrv : rdI l ((k : Nat) : Int)=some y:=by rw [Zhc];exact hv
        have hrd : ∃ u,rdV y.Data ((j : Nat) : Int)=some u:=by rw [Zoc];exact⟨_,Vector.getElem?_eq_getElem hj⟩
        obtain⟨u,hrd⟩:=hrd;have hb:=hw.2 x hm;have hr2 : rdI (l.set k ⟨y.Rights,y.Dirty,y.Data.setIfInBounds j (Wt x.Byte)⟩) ((k : Nat) : Int)=some ⟨y.Rights,y.Dirty,y.Data.setIfInBounds j (Wt x.Byte)⟩:=by rw [Zhc,List.getElem?_set_self hk]
        have hwi : IntKind.i64.wrap (((i : Nat) : Int) + 1)=((i + 1 : Nat) : Int):=by rw [Jw (by have:=hw.1;constructor <;> omega)];omega
        have g1 : ((i : Nat) : Int) < ((ws.length : Nat) : Int):=by omega
        refine .inl ⟨(((i + 1 : Nat) : Int),(l.set k ⟨y.Rights,y.Dirty,y.Data.setIfInBounds j (Wt x.Byte)⟩).set k ⟨y.Rights,true,y.Data.setIfInBounds j (Wt x.Byte)⟩),?_,⟨i + 1,rfl,by omega,?_⟩,by simp only;omega⟩
        · simp only [Vg,g1,hl,hxr,ek,ej,hrv,hrd,hr2,hwi,chk,hne,hb,Int.toNat_natCast,ne_eq,not_false_eq_true,and_self,if_true,decide_true,Bool.and_self,cond_true,Option.bind_some]
        · refine⟨by simp only [List.length_set];exact hov.1,fun q v hq=>?_⟩
          by_cases e : k=q
          · subst e;rw [List.getElem?_set_self (by rw [List.length_set];exact hk)] at hq;cases hq
            obtain⟨x0,a1,a2,_⟩:=hov.2 k y hv;exact⟨x0,a1,a2,fun h=>by cases h⟩
          · rw [List.getElem?_set_ne e,List.getElem?_set_ne e] at hq;exact hov.2 q v hq
      · exact .inr ⟨l,by simp only [Vg,hl,decide_false,Bool.and_false,cond_false],hov⟩
    · have g1 : ¬ ((i : Nat) : Int) < ((ws.length : Nat) : Int):=by omega
      exact .inr ⟨l,by simp only [Vg,g1,decide_false,Bool.false_and,cond_false],hov⟩) (s:=(0,b.Pages)) ⟨0,rfl,Nat.zero_le _,rfl,fun j y hy=>⟨y,hy,rfl,fun _=>rfl⟩⟩
  obtain⟨l,hL,hov⟩:=hL;refine⟨l,?_,hov⟩;simp only [Zbi,Zgu ok,chk,c,if_true,List.nil_append,hL,Option.bind_some]
theorem Zv0 (s : GState) : Zll (mkS s) s=true:=by
  have hz : ∀ l : List GPage,((l.map Ub).zip l).all (fun p=>Zvs p.1 p.2)=true:=by
    intro l
    induction l with
    | nil=>rfl
    | cons x r ih=>
      have h : Zvs (Ub x) x=true:=by simp [Zvs,Ub]
      simp only [List.map_cons,List.zip_cons_cons,List.all_cons,ih,h,Bool.and_self]
  have hl : (mkS s).Pages.length=s.Pages.length:=by simp [mkS]
  unfold Zll;rw [show Zoz (mkS s) s=true by simp [Zoz,mkS],hl,show (mkS s).Pages=s.Pages.map Ub from rfl,hz];simp
theorem clMk (s : GState) : ClP (mkS s).Pages:=fun x hx=>by
  obtain⟨y,_,rfl⟩:=List.mem_map.1 (show x ∈ s.Pages.map Ub from hx);rfl
theorem stepC {p : GPlan} {b s : GState} (okb : OkS b) (ok : OkS s) (hb : atE p b=.nil) (hs : atE p s=.nil) (hd : ClP b.Pages) (he : b.Epoch=s.Epoch) (h0 : 0 ≤ s.Epoch) (h1 : s.Epoch < 2147483647) (ov : OvP b.Pages s.Pages) :
    Ya p b.Id b.Frame b.Epoch b.Procs b.Ready b.Timers b.Up b.Sems b.Ports b.Pages (s.Id,s.Frame,s.Epoch,s.Procs,s.Ready,s.Timers,s.Up,s.Sems,s.Ports,s.Pages)
      = some (.inl ((mkS s).Id,(mkS s).Frame,(mkS s).Epoch,(mkS s).Procs,(mkS s).Ready,(mkS s).Timers,(mkS s).Up,(mkS s).Sems,(mkS s).Ports,(mkS s).Pages)):=by
  have hM : Jq p s=some (mkS s,.nil):=by rw [Zfr ok,if_pos hs,if_neg (by omega)]
  obtain⟨l,hC,hw⟩:=Zt4 okb ok hb hs ov;have hD:=Zsm (okMk ok) (Zmr hs h0 h1);rw [Zh9 (clMk s)] at hD;have hz : ([] : List Int).length=0:=rfl;have hE : (mkS s).Epoch=IntKind.i64.wrap (s.Epoch + 1):=rfl;simp only [Ya,etaS,sinceS okb ok hb hs hd he ov,partS ok hs,hM,layS okb ok hb hs hd he h0 h1 ov,Zh8,Zi0,Zv0,decide_true,Bool.not_true,Bool.or_self,cond_false,Option.bind_some];simp only [Vq,Vp,etaS,hC,Zsm ok hs,hD,Zvz hw,Zmq,hz,hE,decide_true,Bool.not_true,cond_false,Option.bind_some]
theorem Zso {p : GPlan} {s : GState} (ok : OkS s) (hp : Zcm p=.nil) : ∃ c q,Zeu p s=some (c,q) ∧ (c=0 → atE p s=.nil):=by
  refine⟨(Zk1 p s 17).code,(Zk1 p s 17).place,by simp only [Zeu,Zsh p s ok.sm,Option.bind_some],fun h=>?_⟩;have h:=Zgr.1 h;rw [Zpm,if_neg (fun c=>c hp)] at h;unfold atE;rw [if_neg (fun c=>c hp)];cases hf : Wi p s with
  | nil=>rw [if_pos rfl]
  | cons x r=>rw [hf] at h;cases h
theorem Zsp {p : GPlan} (h : Zcm p=.nil) : atE p (Ko p)=.nil ∧ OkS (Ko p):=by
  have ok:=Znp h;obtain⟨id0,id1,pg0,pg1,pr0,pr1,po1,ev0,ev1,se1,_,_,_⟩:=ok;have ok:=Znp h;have hal:=Zmk p.Procs 0;have hpo : ∀ y ∈ (Ko p).Ports,y=(⟨[],0⟩ : GPort):=fun y hy=>List.eq_of_mem_replicate hy
  have b0 : Booted p (Ko p):=Zr6 ok (Ko p) [] (fun _ hx=>by cases hx) rfl rfl (by simp [Ko]) rfl rfl rfl hpo;have k3 : K3 p (Ko p)=true:=by
    unfold K3 Ko;simp;omega
  have f0 : Wi p (Ko p)=[]:=by
    rw [Zr7 h b0 (Zr8 rfl),k3];have : K1 p (Ko p)=true:=by simp [K1,Ko]
    rw [this];rfl
  refine⟨by unfold atE;rw [if_neg (fun c=>c h),if_pos f0],⟨by simp [Ko];omega,by simp only [Ko];omega,by simp [Ko],by simp only [Ko,List.length_replicate];omega,by simp only [Ko];omega,by simp [Ko];omega,by simp [Ko];omega,fun x hx=>?_⟩⟩;rw [hpo x hx];simp
theorem zS_ok : OkS zS:=⟨by simp [zS],by simp [zS],by simp [zS],by simp [zS],by simp [zS],by simp [zS],by simp [zS],fun x hx=>by cases hx⟩
theorem Zio (p : GPlan) (states : List GState) (writes : List (List GL17Write)) (hsl : states.length ≤ 1048576) (hok : ∀ s ∈ states,OkS s) (hwr : ∀ ws ∈ writes,WrOk ws) : Wg p states writes=some true:=by
  by_cases h : Zcm p=.nil
  · obtain⟨hb0,ok0⟩:=Zsp h;have hpg:=(Znp h).pg1;have hM : Jq p (Ko p)=some (mkS (Ko p),.nil):=by rw [Zfr ok0,if_pos hb0,if_neg (by simp [Ko])]
    have hL:=Ws (L:=Qv p states writes) (fun t=>∃ (i : Nat) (b : GState),t=(((i : Nat) : Int),b.Id,b.Frame,b.Epoch,b.Procs,b.Ready,b.Timers,b.Up,b.Sems,b.Ports,b.Pages) ∧ i ≤ states.length ∧ OkS b ∧ atE p b=.nil ∧ ClP b.Pages ∧ 0 ≤ b.Epoch ∧ b.Epoch ≤ 1 + ((i : Nat) : Int)) (fun r=>r=.inl ()) (fun t=>(((states.length : Nat) : Int) - t.1).toNat) (fun t hI=>by
      obtain⟨i,b,rfl,hi,okb,hb,hd,e0,e1⟩:=hI
      by_cases hlt : i < states.length
      · by_cases hlw : i < writes.length
        · have hx : states[i]? = some states[i]:=List.getElem?_eq_getElem hlt;have hxm:=List.getElem_mem hlt
          generalize states[i]=t at hx hxm
          have hy : writes[i]? = some writes[i]:=List.getElem?_eq_getElem hlw;have hym:=List.getElem_mem hlw
          generalize writes[i]=ws at hy hym
          have hxr : rdI states ((i : Nat) : Int)=some t:=by rw [Zhc];exact hx
          have hyr : rdI writes ((i : Nat) : Int)=some ws:=by rw [Zhc];exact hy
          have okt:=hok t hxm;obtain⟨c,q,hr,hc⟩:=Zso (p:=p) okt h;have g1 : ((i : Nat) : Int) < ((states.length : Nat) : Int):=by omega
          have g2 : ((i : Nat) : Int) < ((writes.length : Nat) : Int):=by omega
          have hwi : IntKind.i64.wrap (((i : Nat) : Int) + 1)=((i + 1 : Nat) : Int):=by rw [Jw (by constructor <;> omega)];omega
          by_cases hz : c=0
          · have ht:=hc hz;have hbl : b.Pages.length ≤ 32:=by rw [Zdf hb];exact hpg
            obtain⟨l,hl,ov⟩:=laterS okb okt hbl (hwr ws hym);have hll : l.length=p.Pages.length:=by rw [ov.1,Zdf hb]
            have hs : atE p ⟨t.Id,t.Frame,b.Epoch,t.Procs,t.Ready,t.Timers,t.Up,t.Sems,t.Ports,l⟩=.nil:=at_of ht e0 (by omega) hll fun j y hy=>by
              obtain⟨x,a1,a2,_⟩:=ov.2 j y hy;obtain⟨z,a3,a4⟩:=Zho hb a1;exact⟨z,a3,a2.trans a4⟩
            have oks : OkS (⟨t.Id,t.Frame,b.Epoch,t.Procs,t.Ready,t.Timers,t.Up,t.Sems,t.Ports,l⟩ : GState):=by
              obtain⟨a1,a2,a3,a4,a5,a6,a7,a8⟩:=okt;exact⟨a1,a2,a3,a4,a5,by simp only;omega,a7,a8⟩
            generalize hS : (⟨t.Id,t.Frame,b.Epoch,t.Procs,t.Ready,t.Timers,t.Up,t.Sems,t.Ports,l⟩ : GState)=s at hl hs oks
            have hse : b.Epoch=s.Epoch:=by rw [← hS]
            have ov' : OvP b.Pages s.Pages:=by rw [← hS];exact ov
            have hst:=stepC okb oks hb hs hd hse (by omega) (by omega) ov';refine .inl ⟨(((i + 1 : Nat) : Int),(mkS s).Id,(mkS s).Frame,(mkS s).Epoch,(mkS s).Procs,(mkS s).Ready,(mkS s).Timers,(mkS s).Up,(mkS s).Sems,(mkS s).Ports,(mkS s).Pages),?_,⟨i + 1,mkS s,rfl,by omega,okMk oks,Zmr hs (by omega) (by omega),clMk s,?_,?_⟩,by simp only;omega⟩
            · simp only [Qv,Yb,g1,g2,hxr,hyr,hr,hz,etaS,hl,hst,hwi,decide_true,Bool.and_self,Bool.not_true,cond_true,cond_false,Option.bind_some]
            · show 0 ≤ IntKind.i64.wrap (s.Epoch + 1);rw [Jw (by constructor <;> omega)];omega
            · show IntKind.i64.wrap (s.Epoch + 1) ≤ _;rw [Jw (by constructor <;> omega)];omega
          · refine .inl ⟨(((i + 1 : Nat) : Int),b.Id,b.Frame,b.Epoch,b.Procs,b.Ready,b.Timers,b.Up,b.Sems,b.Ports,b.Pages),?_,⟨i + 1,b,rfl,by omega,okb,hb,hd,e0,by omega⟩,by simp only;omega⟩;simp only [Qv,Yb,g1,g2,hxr,hr,hz,hwi,decide_true,decide_false,Bool.and_self,Bool.not_false,cond_true,Option.bind_some]
        · have g2 : ¬ ((i : Nat) : Int) < ((writes.length : Nat) : Int):=by omega
          exact .inr ⟨_,by simp only [Qv,g2,decide_false,Bool.and_false,cond_false],rfl⟩
      · have g1 : ¬ ((i : Nat) : Int) < ((states.length : Nat) : Int):=by omega
        exact .inr ⟨_,by simp only [Qv,g1,decide_false,Bool.false_and,cond_false],rfl⟩)
      (s:=(((0 : Nat) : Int),(mkS (Ko p)).Id,(mkS (Ko p)).Frame,(mkS (Ko p)).Epoch,(mkS (Ko p)).Procs,(mkS (Ko p)).Ready,(mkS (Ko p)).Timers,(mkS (Ko p)).Up,(mkS (Ko p)).Sems,(mkS (Ko p)).Ports,(mkS (Ko p)).Pages))
      ⟨0,mkS (Ko p),rfl,Nat.zero_le _,okMk ok0,Zmr hb0 (by simp [Ko]) (by simp [Ko]),clMk _,show 0 ≤ IntKind.i64.wrap ((0 : Int) + 1) by decide,show IntKind.i64.wrap ((0 : Int) + 1) ≤ 1 + ((0 : Nat) : Int) by decide⟩
    obtain⟨_,hL,rfl⟩:=hL;have hL' : Kq (Qv p states writes) (0,(mkS (Ko p)).Id,(mkS (Ko p)).Frame,(mkS (Ko p)).Epoch,(mkS (Ko p)).Procs,(mkS (Ko p)).Ready,(mkS (Ko p)).Timers,(mkS (Ko p)).Up,(mkS (Ko p)).Sems,(mkS (Ko p)).Ports,(mkS (Ko p)).Pages)=some (.inl ()):=hL;simp only [Wg,Vr,Zkc,Zjb,h,Zml h,Zgu ok0,hM,hL',decide_true,Bool.not_true,cond_false,Option.bind_some]
  · have ha : atE p zS=.v Zb3:=by unfold atE;rw [if_pos h]
    have hM : Jq p zS=some (zS,.v Zb3):=by
      rw [Zfr zS_ok,ha,if_neg (by intro h;cases h)]
    have h8 : Zau (.v Zb3) 8=some true:=same17 cPlanE rfl;have hz : (⟨0,0,0,([] : List GProc),([] : List Int),([] : List GTimer),([] : List Bool),([] : List Int),([] : List GPort),([] : List GPage)⟩ : GState)=zS:=rfl;simp only [Wg,Zkc,Zjb,h,hz,hM,h8,decide_false,Bool.not_true,Bool.not_false,cond_true,cond_false,Option.bind_some]
end Go.Proofs.YtjekfpnpfllaoaaGreatDoor
