/- Part of a claim, shortened by a program from its texts: PlanLEc. -/
import Derived.Test.YtjekfpnpfllaoaaGreatDoorQcE
set_option linter.unusedVariables false
set_option linter.unusedSimpArgs false
set_option linter.unusedSectionVars false
namespace Go.Proofs.YtjekfpnpfllaoaaGreatDoor
open Go Go.RowKit
section
variable {α ε σ ρ : Type}
def Xx (f : Nat → α → Option ε) : Nat → List α → Option ε
  | _,[]=>none
  | k,x :: r=>match f k x with
    | some e=>some e
    | none=>Xx f (k + 1) r
theorem Zez {ε' : Type} {f : Nat → α → Option ε} {g : Nat → α → Option ε'} {m : ε → ε'} : ∀ (l : List α) (k : Nat),(∀ i x,l[i]? = some x → g (k + i) x=(f (k + i) x).map m) → Xx g k l=(Xx f k l).map m
  | [],_,_=>rfl
  | x :: r,k,h=>by
    have h0 : g k x=(f k x).map m:=h 0 x rfl;have h1:=Zez (m:=m) r (k + 1) fun i y hy=>(show k + (i + 1)=k + 1 + i by omega) ▸ h (i + 1) y (by simpa using hy)
    rw [Xx,Xx,h0,h1];cases f k x <;> rfl
def fin (o : Option ε) : Unit ⊕ ε:=match o with
  | none=>.inl ()
  | some e=>.inr e
def nxt (s : σ) (o : Option ε) : σ ⊕ (Unit ⊕ ε):=match o with
  | none=>.inl s
  | some e=>.inr (.inr e)
theorem Zak (s : σ) (e : ε) : nxt s (some e)=.inr (.inr e):=rfl
theorem Zb1 (s : σ) : nxt s (none : Option ε)=.inl s:=rfl
theorem Zik (s : σ) (c : Prop) [Decidable c] (a b : Option ε) : nxt s (if c then a else b)=if c then nxt s a else nxt s b:=by split <;> rfl
theorem Ua {L : Nat → Option (Nat ⊕ (Unit ⊕ ε))} {l : List α} {f : Nat → α → Option ε}
    (h : ∀ i x,i < l.length → l[i]? = some x → L i=some (nxt (i + 1) (f i x))) (h2 : L l.length=some (.inr (.inl ()))) :
    Kq L 0=some (fin (Xx f 0 l)):=by
  have key : ∀ m k,k + m=l.length → Kq L k=some (fin (Xx f k (l.drop k))):=by
    intro m
    induction m with
    | zero=>
      intro k hk;obtain rfl : k=l.length:=by omega
      rw [Ue h2,List.drop_length];rfl
    | succ m ih=>
      intro k hk;have hlt : k < l.length:=by omega
      have hx : l[k]? = some l[k]:=List.getElem?_eq_getElem hlt;have hd : l.drop k=l[k] :: l.drop (k + 1):=List.drop_eq_getElem_cons hlt;have hs:=h k _ hlt hx;rw [hd];cases hf : f k l[k] with
      | none=>rw [hf] at hs;rw [Hw hs,ih (k + 1) (by omega),Xx,hf]
      | some e=>rw [hf] at hs;rw [Ue hs,Xx,hf];rfl
  simpa using key l.length 0 (by omega)
theorem Zh3 {L : σ × Nat → Option ((σ × Nat) ⊕ σ)} {l : List α} {g : σ → α → σ} {I : σ → Nat → Prop} {z : σ} (h0 : I z 0)
    (h : ∀ i x z,i < l.length → l[i]? = some x → I z i → L (z,i)=some (.inl (g z x,i + 1)) ∧ I (g z x) (i + 1)) (h2 : ∀ z,I z l.length → L (z,l.length)=some (.inr z)) :
    Kq L (z,0)=some (l.foldl g z) ∧ I (l.foldl g z) l.length:=by
  have key : ∀ m k z,k + m=l.length → I z k → Kq L (z,k)=some ((l.drop k).foldl g z) ∧ I ((l.drop k).foldl g z) l.length:=by
    intro m
    induction m with
    | zero=>
      intro k z hk hI;obtain rfl : k=l.length:=by omega
      rw [Ue (h2 z hI),List.drop_length];exact⟨rfl,hI⟩
    | succ m ih=>
      intro k z hk hI;have hlt : k < l.length:=by omega
      have hx : l[k]? = some l[k]:=List.getElem?_eq_getElem hlt;have hd : l.drop k=l[k] :: l.drop (k + 1):=List.drop_eq_getElem_cons hlt;have hs:=h k _ z hlt hx hI;rw [hd,Hw hs.1,List.foldl_cons];exact ih (k + 1) _ (by omega) hs.2
  simpa using key l.length 0 z (by omega) h0
end
theorem cPlan : (ErrM.v Zb3).code=8:=by decide
theorem cNil : ErrM.nil.code=0:=rfl
theorem cPl (p : Int) (g : Nat) : (ErrM.pl p g).code=(ErrM.v g).code:=rfl
theorem pPl (p : Int) (g : Nat) : (ErrM.pl p g).place=p:=rfl
theorem pV (g : Nat) : (ErrM.v g).place=-1:=rfl
theorem pNil : ErrM.nil.place=-1:=rfl
theorem Zgr {e : ErrM} : e.code=0 ↔ e=.nil:=by
  cases e with
  | nil=>simp [cNil]
  | v g=>simp only [ErrM.code,ErrM.g?,Zs3];constructor <;> intro h <;> first | omega | cases h
  | pl p g=>simp only [ErrM.code,ErrM.g?,Zs3];constructor <;> intro h <;> first | omega | cases h
def Zh4 (p : GPortPlan) : ErrM:=
  if p.Kind < 1 ∨ 4 < p.Kind then .v Zti
  else if p.Size < 1 ∨ 32 < p.Size then .v Zc2
  else if p.Depth < 1 ∨ (if 3 ≤ p.Kind then 8 else 1) < p.Depth ∨ p.Refresh < 0 ∨ (if p.Kind=1 then 255 else 0) < p.Refresh then .v Hx
  else .nil
theorem Zg4 (p : GPortPlan) : Wp p=some (Zh4 p):=by
  have hk : (p.Kind < 1 ∨ 4 < p.Kind) ∨ p.Kind=1 ∨ p.Kind=2 ∨ p.Kind=3 ∨ p.Kind=4:=by omega
  rcases hk with h|h|h|h|h
  all_goals
    unfold Wp Gm Gl Gk Zbv Zfa Zar Zh4
    first
    | (have h1 : ¬ p.Kind=1 := by omega
       have h2 : ¬ p.Kind=2:=by omega
       have h3 : ¬ p.Kind=3:=by omega
       have h4 : ¬ p.Kind=4:=by omega
       simp [h1,h2,h3,h4,h])
    | (simp [h,Bool.cond_eq_ite];repeat' split
       all_goals first | rfl | omega | simp_all)
theorem Zh5 (p : GPortPlan) : Uu p=some (Zh4 p).code:=by
  have hk : (p.Kind < 1 ∨ 4 < p.Kind) ∨ p.Kind=1 ∨ p.Kind=2 ∨ p.Kind=3 ∨ p.Kind=4:=by omega
  rcases hk with h|h|h|h|h
  all_goals
    unfold Uu Zh4;simp [h,Bool.cond_eq_ite]
    try (repeat' split
         all_goals first | rfl | omega | (simp_all;omega))
def Zj5 (i : Nat) (x : GPagePlan) : Option ErrM:=if x.Rights < 0 ∨ 7 < x.Rights then some (.pl i Hx) else if 64 < x.Init.size then some (.pl i Zhe) else none
def orN (o : Option ErrM) : ErrM:=o.getD .nil
def Ze0 (p : GPlan) : ErrM:=if p.Pages.length < 1 ∨ 32 < p.Pages.length then .v Zc2 else orN (Xx Zj5 0 p.Pages)
theorem Zoj (i : Int) (g : Nat) : Zb4 i (.v g)=some (.pl i g):=rfl
theorem Zp0 (p : GPlan) : Ui p=some (Ze0 p):=by
  have h:=Ua (L:=Yc p) (l:=p.Pages) (f:=Zj5) (fun i x hi hx=>by
    simp only [Yc,hi,hx,decide_true,cond_true,Option.bind_some,Zoj,Bool.cond_eq_ite,Bool.or_eq_true,decide_eq_true_eq,Zj5,Zik,Zak,Zb1]
    repeat' split
    all_goals first | rfl | (simp_all;done) | omega) (by simp [Yc])
  simp only [Ui,h,Ze0,Option.bind_some,Bool.cond_eq_ite,Bool.or_eq_true,decide_eq_true_eq];cases Xx Zj5 0 p.Pages <;> (split <;> rfl)
def Zh6 (n : Nat) (i : Nat) (x : GProcPlan) : Option ErrM:=if x.Entry < 0 ∨ IntKind.i64.wrap (64 * (n : Int)) ≤ x.Entry ∨ Int.tmod x.Entry 4 ≠ 0 ∨ x.Prio < 0 ∨ 255 < x.Prio then some (.pl i Hx) else none
def Ze1 (p : GPlan) : ErrM:=if p.Procs.length < 1 ∨ 8 < p.Procs.length then .v Zc2 else orN (Xx (Zh6 p.Pages.length) 0 p.Procs)
theorem Zp1 (p : GPlan) : Uj p=some (Ze1 p):=by
  have h:=Ua (L:=Yd p) (l:=p.Procs) (f:=Zh6 p.Pages.length) (fun i x hi hx=>by
    simp only [Yd,Uf,hi,hx,decide_true,cond_true,Option.bind_some,Zoj,Bool.cond_eq_ite,decide_eq_true_eq,Zh6,Zik,Zak,Zb1,Bool.not_eq_true',decide_eq_false_iff_not]
    repeat' split
    all_goals first | rfl | omega | (simp_all;done) | (simp_all;omega)) (by simp [Yd])
  simp only [Uj,h,Ze1,Option.bind_some,Bool.cond_eq_ite,Bool.or_eq_true,decide_eq_true_eq];cases Xx (Zh6 p.Pages.length) 0 p.Procs <;> (split <;> rfl)
def Zbo (i : Nat) (x : GPortPlan) : Option ErrM:=match Zh4 x with
  | .v g=>some (.pl i g)
  | _=>none
theorem Zd7 (x : GPortPlan) : Zh4 x=.nil ∨ ∃ g,Zh4 x=.v g:=by
  unfold Zh4
  repeat' split
  all_goals first | exact .inl rfl | exact .inr ⟨_,rfl⟩
def Zfv (p : GPlan) : ErrM:=if 8 < p.Ports.length then .v Zc2 else orN (Xx Zbo 0 p.Ports)
def Zms (i : Nat) (x : Int) : Option ErrM:=if x < 0 ∨ 255 < x then some (.pl i Hx) else none
def Zcx (p : GPlan) : ErrM:=if p.Events < 0 ∨ 8 < p.Events then .v Hx else if 8 < p.Sems.length then .v Zc2 else orN (Xx Zms 0 p.Sems)
def Zok (x : GPortPlan) : Int:=if Zh4 x ≠ .nil then 0 else if x.Kind=2 ∨ x.Kind=4 then 2 else IntKind.i64.wrap (2 + IntKind.i64.wrap (x.Depth * IntKind.i64.wrap (1 + x.Size)))
def Ziy (p : GPlan) : Int:=p.Ports.foldl (fun z x=>IntKind.i64.wrap (z + IntKind.i64.wrap (3 + Zok x))) (IntKind.i64.wrap ((IntKind.i64.wrap ((IntKind.i64.wrap ((IntKind.i64.wrap (58 + (IntKind.i64.wrap (76 * ((p.Procs.length : Nat) : Int))))) + (IntKind.i64.wrap (68 * ((p.Pages.length : Nat) : Int))))) + p.Events)) + ((p.Sems.length : Nat) : Int)))
theorem Zru (x : GPortPlan) : ∃ e,Zdn x=some (Zok x,e):=by
  simp only [Zdn,Zg4,Option.bind_some,Zok,Zar,Bool.cond_eq_ite,Bool.not_eq_true',decide_eq_false_iff_not,Bool.or_eq_true,decide_eq_true_eq]
  repeat' split
  all_goals first | exact⟨_,rfl⟩ | (simp_all;done)
theorem Ztq (x : GPortPlan) : ∃ e,Zet x=some (Zok x,e):=by
  simp only [Zet,Zh5,Option.bind_some,Zok,Bool.cond_eq_ite,Bool.not_eq_true',decide_eq_false_iff_not,Zgr,decide_eq_true_eq]
  by_cases h : Zh4 x=.nil
  · simp only [h,not_true_eq_false,if_false,ne_eq];have hk : 1 ≤ x.Kind ∧ x.Kind ≤ 4 ∧ 1 ≤ x.Depth ∧ (x.Kind ≤ 2 → x.Depth=1) ∧ 1 ≤ x.Size ∧ x.Size ≤ 32:=by
      unfold Zh4 at h
      repeat' split at h
      all_goals first | (cases h;done) | omega
    repeat' split
    all_goals first | (exact⟨_,rfl⟩) | omega | skip
    have h1 : x.Depth=1:=by omega
    refine⟨0,?_⟩;rw [h1,Int.one_mul]
    congr 2
    have e1 : IntKind.i64.wrap (1 + x.Size)=1 + x.Size:=Jw ⟨by omega,by omega⟩;rw [e1,e1]
    congr 1
    omega
  · simp only [h,not_false_eq_true,if_true,ne_eq];exact⟨_,rfl⟩
theorem Zp2 (p : GPlan) : Zb5 p=some (Ziy p):=by
  have h:=Zh3 (L:=Uk p) (l:=p.Ports) (g:=fun z x=>IntKind.i64.wrap (z + IntKind.i64.wrap (3 + Zok x))) (I:=fun _ _=>True)
    (z:=IntKind.i64.wrap ((IntKind.i64.wrap ((IntKind.i64.wrap ((IntKind.i64.wrap (58 + (IntKind.i64.wrap (76 * ((p.Procs.length : Nat) : Int))))) + (IntKind.i64.wrap (68 * ((p.Pages.length : Nat) : Int))))) + p.Events)) + ((p.Sems.length : Nat) : Int))) trivial
    (fun i x z hi hx _=>⟨by
      obtain⟨e,he⟩:=Zru x;simp only [Uk,hi,hx,decide_true,cond_true,Option.bind_some,he],trivial⟩) (fun z _=>by simp [Uk])
  simp only [Zb5,h.1,Option.bind_some,Ziy]
theorem Zrv (p : GPlan) : Zdr p=some (Ziy p):=by
  have h:=Zh3 (L:=Hr p) (l:=p.Ports) (g:=fun z x=>IntKind.i64.wrap (z + IntKind.i64.wrap (3 + Zok x))) (I:=fun _ _=>True)
    (z:=IntKind.i64.wrap ((IntKind.i64.wrap ((IntKind.i64.wrap ((IntKind.i64.wrap (58 + (IntKind.i64.wrap (76 * ((p.Procs.length : Nat) : Int))))) + (IntKind.i64.wrap (68 * ((p.Pages.length : Nat) : Int))))) + p.Events)) + ((p.Sems.length : Nat) : Int))) trivial
    (fun i x z hi hx _=>⟨by
      obtain⟨e,he⟩:=Ztq x;simp only [Hr,hi,hx,decide_true,cond_true,Option.bind_some,he],trivial⟩) (fun z _=>by simp [Hr])
  simp only [Zdr,h.1,Option.bind_some,Ziy]
def orE (a b : ErrM) : ErrM:=if a=.nil then b else a
def Zp3 (p : GPlan) : ErrM:=orE (Zfv p) (orE (Zcx p) (if 4096 < Ziy p then .v Zc2 else .nil))
theorem Zrw (p : GPlan) : Gx p=some (Zp3 p):=by
  have h2:=Ua (L:=Yn p) (l:=p.Ports) (f:=Zbo) (fun i x hi hx=>by
    simp only [Yn,hi,hx,decide_true,cond_true,Option.bind_some,Zg4,Zbo]
    rcases Zd7 x with h | ⟨g,h⟩
    · rw [h];rfl
    · rw [h];rfl) (by simp [Yn])
  have h1:=Ua (L:=Ym p) (l:=p.Sems) (f:=Zms) (fun i x hi hx=>by
    simp only [Ym,hi,hx,decide_true,cond_true,Option.bind_some,Zoj,Bool.cond_eq_ite,Bool.or_eq_true,decide_eq_true_eq,Zms,Zik,Zak,Zb1,if_true];split <;> rfl) (by simp [Ym])
  simp only [Gx,h1,h2,Zp2,Option.bind_some,Bool.cond_eq_ite,Bool.or_eq_true,decide_eq_true_eq,Zp3,Zfv,Zcx];have hp : ∀ e,Xx Zbo 0 p.Ports=some e → e ≠ .nil:=by
    have key : ∀ (l : List GPortPlan) k e,Xx Zbo k l=some e → e ≠ .nil:=by
      intro l
      induction l with
      | nil=>intro k e h;cases h
      | cons x r ih=>
        intro k e h
        rcases Zd7 x with hs | ⟨g,hs⟩
        · simp only [Xx,Zbo,hs] at h;exact ih _ _ h
        · simp only [Xx,Zbo,hs,Option.some.injEq] at h;subst h;intro h;cases h
    exact key _ _
  have hq : ∀ e,Xx Zms 0 p.Sems=some e → e ≠ .nil:=by
    have key : ∀ (l : List Int) k e,Xx Zms k l=some e → e ≠ .nil:=by
      intro l
      induction l with
      | nil=>intro k e h;cases h
      | cons x r ih=>
        intro k e h
        by_cases hs : x < 0 ∨ 255 < x
        · simp only [Xx,Zms,if_pos hs,Option.some.injEq] at h;subst h;intro h;cases h
        · simp only [Xx,Zms,if_neg hs] at h;exact ih _ _ h
    exact key _ _
  by_cases c1 : 8 < p.Ports.length
  · simp only [c1,if_true,orE];rfl
  simp only [c1,if_false];cases h3 : Xx Zbo 0 p.Ports with
  | some e=>
    have:=hp e h3;simp only [fin,orN,Option.getD_some,orE,this,if_false]
  | none=>
    simp only [fin,orN,Option.getD_none,orE,if_true]
    by_cases c2 : p.Events < 0 ∨ 8 < p.Events
    · simp only [c2,if_true];rfl
    simp only [c2,if_false]
    by_cases c3 : 8 < p.Sems.length
    · simp only [c3,if_true];rfl
    simp only [c3,if_false];cases h4 : Xx Zms 0 p.Sems with
    | some e=>
      have:=hq e h4;simp only [fin,orN,Option.getD_some,this,if_false]
    | none=>
      simp only [fin,orN,Option.getD_none,if_true];split <;> rfl
def Zcm (p : GPlan) : ErrM:=if p.Id < 0 ∨ 2147483647 < p.Id then .v Hx else orE (Ze0 p) (orE (Ze1 p) (Zp3 p))
theorem Zlk (p : GPlan) : Zb6 p=some (Zcm p):=by
  simp only [Zb6,Zp0,Zp1,Zrw,Option.bind_some,Bool.cond_eq_ite,Bool.or_eq_true,decide_eq_true_eq,Zcm,Bool.not_eq_true',decide_eq_false_iff_not,orE]
  repeat' split
  all_goals first | rfl | (simp_all;done)
def eR (e : ErrM) : GR10Err:=⟨e.code,e.place⟩
theorem Zrx (p : GPlan) : Zdo p=some (eR (Ze0 p)):=by
  have h:=Ua (L:=Ut p) (l:=p.Pages) (f:=fun i x=>(Zj5 i x).map eR) (fun i x hi hx=>by
    simp only [Ut,Za6,hi,hx,decide_true,cond_true,Option.bind_some,Bool.cond_eq_ite,decide_eq_true_eq,Zj5]
    by_cases c1 : x.Rights < 0
    · simp only [c1,if_true,true_or,Option.bind_some,Option.map_some,Zak];rfl
    by_cases c2 : 7 < x.Rights
    · simp only [c1,c2,if_true,if_false,decide_true,or_true,Option.bind_some,Option.map_some,Zak];rfl
    by_cases c3 : 64 < x.Init.size
    · simp [c1,c2,c3,Zak];rfl
    · simp [c1,c2,c3,Zb1]) (by simp [Ut])
  simp only [Zdo,Wy,Wq,h,Ze0,Option.bind_some,Bool.cond_eq_ite,Bool.or_eq_true,decide_eq_true_eq];rw [Zez (f:=Zj5) (m:=eR) _ _ fun _ _ _=>rfl];cases Xx Zj5 0 p.Pages <;> (split <;> rfl)
theorem Zry (p : GPlan) : Zdp p=some (eR (Ze1 p)):=by
  have h:=Ua (L:=Hp p) (l:=p.Procs) (f:=fun i x=>(Zh6 p.Pages.length i x).map eR) (fun i x hi hx=>by
    by_cases c1 : x.Entry < 0 <;> by_cases c2 : IntKind.i64.wrap (64 * (p.Pages.length : Int)) ≤ x.Entry <;> by_cases c3 : Int.tmod x.Entry 4=0 <;> by_cases c4 : x.Prio < 0 <;> by_cases c5 : 255 < x.Prio
    all_goals
      simp only [Hp,Zbx,hi,hx,decide_true,decide_false,cond_true,cond_false,Option.bind_some,Zh6,c1,c2,c3,c4,c5,Bool.not_true,Bool.not_false,true_or,or_true,or_false,false_or,if_true,if_false,ne_eq,not_true_eq_false,not_false_eq_true];rfl) (by simp [Hp])
  simp only [Zdp,Wy,Wq,h,Ze1,Option.bind_some,Bool.cond_eq_ite,Bool.or_eq_true,decide_eq_true_eq];rw [Zez (f:=Zh6 p.Pages.length) (m:=eR) _ _ fun _ _ _=>rfl];cases Xx (Zh6 p.Pages.length) 0 p.Procs <;> (split <;> rfl)
theorem Zrz (p : GPlan) : Zdq p=some (eR (Zfv p)):=by
  have h:=Ua (L:=Hq p) (l:=p.Ports) (f:=fun i x=>(Zbo i x).map eR) (fun i x hi hx=>by
    simp only [Hq,hi,hx,decide_true,cond_true,Option.bind_some,Zh5,Bool.cond_eq_ite,Bool.not_eq_true',decide_eq_false_iff_not,Zgr,Zbo]
    rcases Zd7 x with h | ⟨g,h⟩
    · rw [h];rfl
    · rw [h,if_pos (show ¬ ErrM.v g=.nil from fun h=>by cases h)];rfl) (by simp [Hq])
  simp only [Zdq,Wy,Wq,h,Zfv,Option.bind_some,Bool.cond_eq_ite,decide_eq_true_eq];rw [Zez (f:=Zbo) (m:=eR) _ _ fun _ _ _=>rfl];cases Xx Zbo 0 p.Ports <;> (split <;> rfl)
theorem Zp4 (p : GPlan) : Zca p=some (eR (Zcx p)):=by
  have h:=Ua (L:=Uv p) (l:=p.Sems) (f:=fun i x=>(Zms i x).map eR) (fun i x hi hx=>by
    by_cases c1 : x < 0 <;> by_cases c2 : 255 < x
    all_goals
      simp only [Uv,Za7,hi,hx,decide_true,decide_false,cond_true,cond_false,Option.bind_some,Zms,c1,c2,true_or,or_true,or_false,false_or,if_true,if_false];rfl) (by simp [Uv])
  simp only [Zca,Wy,Wq,h,Zcx,Option.bind_some,Bool.cond_eq_ite,Bool.or_eq_true,decide_eq_true_eq];rw [Zez (f:=Zms) (m:=eR) _ _ fun _ _ _=>rfl]
  by_cases c1 : p.Events < 0 ∨ 8 < p.Events
  · simp only [c1,if_true];rfl
  by_cases c2 : 8 < p.Sems.length
  · simp only [c1,c2,if_true,if_false];rfl
  simp only [c1,c2,if_false];cases Xx Zms 0 p.Sems <;> rfl
theorem Zr0 (p : GPlan) : Zds p=some (eR (Zcm p)):=by
  simp only [Zds,Zrx,Zry,Zrz,Zp4,Zrv,Wy,Wq,Option.bind_some,Bool.cond_eq_ite,Bool.or_eq_true,decide_eq_true_eq,Zcm,Zp3,orE];have hL : ∀ i x,i < 4 → [eR (Ze0 p),eR (Ze1 p),eR (Zfv p),eR (Zcx p)][i]? = some x → Uc (eR (Ze0 p)) (eR (Ze1 p)) (eR (Zfv p)) (eR (Zcx p)) i=some (nxt (i + 1) (if x.Code=0 then none else some x)):=by
    intro i x hi hx;have hi' : i < [eR (Ze0 p),eR (Ze1 p),eR (Zfv p),eR (Zcx p)].length:=hi;simp only [Uc,hi',hx,decide_true,cond_true,Option.bind_some,Bool.cond_eq_ite,Bool.not_eq_true',decide_eq_false_iff_not]
    by_cases c : x.Code=0
    · simp only [c,not_true_eq_false,if_false,if_true,Zb1]
    · simp only [c,not_false_eq_true,if_false,if_true,Zak]
  have h:=Ua (L:=Uc (eR (Ze0 p)) (eR (Ze1 p)) (eR (Zfv p)) (eR (Zcx p))) (l:=[eR (Ze0 p),eR (Ze1 p),eR (Zfv p),eR (Zcx p)]) (f:=fun _ x=>if x.Code=0 then none else some x) hL (by simp [Uc]);rw [h];have hc : ∀ e : ErrM,(eR e).Code=0 ↔ e=.nil:=fun e=>Zgr
  simp only [Xx,hc]
  by_cases c0 : p.Id < 0 ∨ 2147483647 < p.Id
  · simp only [c0,if_true];rfl
  simp only [c0,if_false]
  by_cases c1 : Ze0 p=.nil
  · simp only [c1,if_true]
    by_cases c2 : Ze1 p=.nil
    · simp only [c2,if_true]
      by_cases c3 : Zfv p=.nil
      · simp only [c3,if_true]
        by_cases c4 : Zcx p=.nil
        · simp only [c4,if_true];show Option.bind (some (Sum.inl ())) _=_
          by_cases c5 : 4096 < Ziy p
          · simp only [c5,if_true,Option.bind_some];rfl
          · simp only [c5,if_false,Option.bind_some];rfl
        · simp only [c4,if_false];rfl
      · simp only [c3,if_false];rfl
    · simp only [c2,if_false];rfl
  · simp only [c1,if_false];rfl
theorem Zjb (p : GPlan) : Zde p=some (decide (Zcm p=.nil)):=by
  have : ((eR (Zcm p)).Code=0)=(Zcm p=.nil):=propext Zgr;simp only [Zde,Zr0,Option.bind_some,this]
end Go.Proofs.YtjekfpnpfllaoaaGreatDoor
