/- Part of a claim, shortened by a program from its texts: PlanLEm, RuleEEm, EpoSEm, EpoLEm, EpoTEm. -/
import Derived.Test.YtjekfpnpfllaoaaGreatDoorQqE
set_option linter.unusedVariables false
set_option linter.unusedSimpArgs false
set_option linter.unusedSectionVars false
namespace Go.Proofs.YtjekfpnpfllaoaaGreatDoor
open Go Go.RowKit
section
variable {α ε σ ρ : Type}
def Jc (f : Nat → α → Option ε) : Nat → List α → Option ε
  | _,[]=>none
  | k,x :: r=>match f k x with
    | some e=>some e
    | none=>Jc f (k + 1) r
theorem Zfs {ε' : Type} {f : Nat → α → Option ε} {g : Nat → α → Option ε'} {m : ε → ε'} : ∀ (l : List α) (k : Nat),(∀ i x,l[i]? = some x → g (k + i) x=(f (k + i) x).map m) → Jc g k l=(Jc f k l).map m
  | [],_,_=>rfl
  | x :: r,k,h=>by
    have h0 : g k x=(f k x).map m:=h 0 x rfl;have h1:=Zfs (m:=m) r (k + 1) fun i y hy=>(show k + (i + 1)=k + 1 + i by omega) ▸ h (i + 1) y (by simpa using hy)
    rw [Jc,Jc,h0,h1];cases f k x <;> rfl
def fin (o : Option ε) : Unit ⊕ ε:=match o with
  | none=>.inl ()
  | some e=>.inr e
def nxt (s : σ) (o : Option ε) : σ ⊕ (Unit ⊕ ε):=match o with
  | none=>.inl s
  | some e=>.inr (.inr e)
theorem Za3 (s : σ) (e : ε) : nxt s (some e)=.inr (.inr e):=rfl
theorem Zcp (s : σ) : nxt s (none : Option ε)=.inl s:=rfl
theorem Zi7 (s : σ) (c : Prop) [Decidable c] (a b : Option ε) : nxt s (if c then a else b)=if c then nxt s a else nxt s b:=by split <;> rfl
theorem Uj {L : Nat → Option (Nat ⊕ (Unit ⊕ ε))} {l : List α} {f : Nat → α → Option ε}
    (h : ∀ i x,i < l.length → l[i]? = some x → L i=some (nxt (i + 1) (f i x))) (h2 : L l.length=some (.inr (.inl ()))) :
    Kj L 0=some (fin (Jc f 0 l)):=by
  have key : ∀ m k,k + m=l.length → Kj L k=some (fin (Jc f k (l.drop k))):=by
    intro m
    induction m with
    | zero=>
      intro k hk;obtain rfl : k=l.length:=by omega
      rw [Wl h2,List.drop_length];rfl
    | succ m ih=>
      intro k hk;have hlt : k < l.length:=by omega
      have hx : l[k]? = some l[k]:=List.getElem?_eq_getElem hlt;have hd : l.drop k=l[k] :: l.drop (k + 1):=List.drop_eq_getElem_cons hlt;have hs:=h k _ hlt hx;rw [hd];cases hf : f k l[k] with
      | none=>rw [hf] at hs;rw [Uu hs,ih (k + 1) (by omega),Jc,hf]
      | some e=>rw [hf] at hs;rw [Wl hs,Jc,hf];rfl
  simpa using key l.length 0 (by omega)
theorem Ziq {L : σ × Nat → Option ((σ × Nat) ⊕ σ)} {l : List α} {g : σ → α → σ} {I : σ → Nat → Prop} {z : σ} (h0 : I z 0)
    (h : ∀ i x z,i < l.length → l[i]? = some x → I z i → L (z,i)=some (.inl (g z x,i + 1)) ∧ I (g z x) (i + 1)) (h2 : ∀ z,I z l.length → L (z,l.length)=some (.inr z)) :
    Kj L (z,0)=some (l.foldl g z) ∧ I (l.foldl g z) l.length:=by
  have key : ∀ m k z,k + m=l.length → I z k → Kj L (z,k)=some ((l.drop k).foldl g z) ∧ I ((l.drop k).foldl g z) l.length:=by
    intro m
    induction m with
    | zero=>
      intro k z hk hI;obtain rfl : k=l.length:=by omega
      rw [Wl (h2 z hI),List.drop_length];exact⟨rfl,hI⟩
    | succ m ih=>
      intro k z hk hI;have hlt : k < l.length:=by omega
      have hx : l[k]? = some l[k]:=List.getElem?_eq_getElem hlt;have hd : l.drop k=l[k] :: l.drop (k + 1):=List.drop_eq_getElem_cons hlt;have hs:=h k _ z hlt hx hI;rw [hd,Uu hs.1,List.foldl_cons];exact ih (k + 1) _ (by omega) hs.2
  simpa using key l.length 0 z (by omega) h0
end
theorem cPlan : (ErrM.v Zd8).code=8:=by decide
theorem cNil : ErrM.nil.code=0:=rfl
theorem cPl (p : Int) (g : Nat) : (ErrM.pl p g).code=(ErrM.v g).code:=rfl
theorem pPl (p : Int) (g : Nat) : (ErrM.pl p g).place=p:=rfl
theorem pV (g : Nat) : (ErrM.v g).place=-1:=rfl
theorem pNil : ErrM.nil.place=-1:=rfl
theorem Zir {e : ErrM} : e.code=0 ↔ e=.nil:=by
  cases e with
  | nil=>simp [cNil]
  | v g=>simp only [ErrM.code,ErrM.g?,Zt0];constructor <;> intro h <;> first | omega | cases h
  | pl p g=>simp only [ErrM.code,ErrM.g?,Zt0];constructor <;> intro h <;> first | omega | cases h
def Zis (p : GPortPlan) : ErrM:=
  if p.Kind < 1 ∨ 4 < p.Kind then .v Zud
  else if p.Size < 1 ∨ 32 < p.Size then .v Zdp
  else if p.Depth < 1 ∨ (if 3 ≤ p.Kind then 8 else 1) < p.Depth ∨ p.Refresh < 0 ∨ (if p.Kind=1 then 255 else 0) < p.Refresh then .v Tm
  else .nil
theorem Zht (p : GPortPlan) : Wt p=some (Zis p):=by
  have hk : (p.Kind < 1 ∨ 4 < p.Kind) ∨ p.Kind=1 ∨ p.Kind=2 ∨ p.Kind=3 ∨ p.Kind=4:=by omega
  rcases hk with h|h|h|h|h
  all_goals
    unfold Wt Hc Hb Ha Zci Zfy Zbc Zis
    first
    | (have h1 : ¬ p.Kind=1 := by omega
       have h2 : ¬ p.Kind=2:=by omega
       have h3 : ¬ p.Kind=3:=by omega
       have h4 : ¬ p.Kind=4:=by omega
       simp [h1,h2,h3,h4,h])
    | (simp [h,Bool.cond_eq_ite];repeat' split
       all_goals first | rfl | omega | simp_all)
theorem Zit (p : GPortPlan) : Gi p=some (Zis p).code:=by
  have hk : (p.Kind < 1 ∨ 4 < p.Kind) ∨ p.Kind=1 ∨ p.Kind=2 ∨ p.Kind=3 ∨ p.Kind=4:=by omega
  rcases hk with h|h|h|h|h
  all_goals
    unfold Gi Zis;simp [h,Bool.cond_eq_ite]
    try (repeat' split
         all_goals first | rfl | omega | (simp_all;omega))
def Zks (i : Nat) (x : GPagePlan) : Option ErrM:=if x.Rights < 0 ∨ 7 < x.Rights then some (.pl i Tm) else if 64 < x.Init.size then some (.pl i Zh1) else none
def orN (o : Option ErrM) : ErrM:=o.getD .nil
def Zft (p : GPlan) : ErrM:=if p.Pages.length < 1 ∨ 32 < p.Pages.length then .v Zdp else orN (Jc Zks 0 p.Pages)
theorem Zpa (i : Int) (g : Nat) : Zcr i (.v g)=some (.pl i g):=rfl
theorem Zqz (p : GPlan) : Uy p=some (Zft p):=by
  have h:=Uj (L:=Yc p) (l:=p.Pages) (f:=Zks) (fun i x hi hx=>by
    simp only [Yc,hi,hx,decide_true,cond_true,Option.bind_some,Zpa,Bool.cond_eq_ite,Bool.or_eq_true,decide_eq_true_eq,Zks,Zi7,Za3,Zcp]
    repeat' split
    all_goals first | rfl | (simp_all;done) | omega) (by simp [Yc])
  simp only [Uy,h,Zft,Option.bind_some,Bool.cond_eq_ite,Bool.or_eq_true,decide_eq_true_eq];cases Jc Zks 0 p.Pages <;> (split <;> rfl)
def Ziu (n : Nat) (i : Nat) (x : GProcPlan) : Option ErrM:=if x.Entry < 0 ∨ IntKind.i64.wrap (64 * (n : Int)) ≤ x.Entry ∨ Int.tmod x.Entry 4 ≠ 0 ∨ x.Prio < 0 ∨ 255 < x.Prio then some (.pl i Tm) else none
def Zfu (p : GPlan) : ErrM:=if p.Procs.length < 1 ∨ 8 < p.Procs.length then .v Zdp else orN (Jc (Ziu p.Pages.length) 0 p.Procs)
theorem Zq0 (p : GPlan) : Uz p=some (Zfu p):=by
  have h:=Uj (L:=Yd p) (l:=p.Procs) (f:=Ziu p.Pages.length) (fun i x hi hx=>by
    simp only [Yd,Uv,hi,hx,decide_true,cond_true,Option.bind_some,Zpa,Bool.cond_eq_ite,decide_eq_true_eq,Ziu,Zi7,Za3,Zcp,Bool.not_eq_true',decide_eq_false_iff_not]
    repeat' split
    all_goals first | rfl | omega | (simp_all;done) | (simp_all;omega)) (by simp [Yd])
  simp only [Uz,h,Zfu,Option.bind_some,Bool.cond_eq_ite,Bool.or_eq_true,decide_eq_true_eq];cases Jc (Ziu p.Pages.length) 0 p.Procs <;> (split <;> rfl)
def Zca (i : Nat) (x : GPortPlan) : Option ErrM:=match Zis x with
  | .v g=>some (.pl i g)
  | _=>none
theorem Zew (x : GPortPlan) : Zis x=.nil ∨ ∃ g,Zis x=.v g:=by
  unfold Zis
  repeat' split
  all_goals first | exact .inl rfl | exact .inr ⟨_,rfl⟩
def Zgh (p : GPlan) : ErrM:=if 8 < p.Ports.length then .v Zdp else orN (Jc Zca 0 p.Ports)
def Znl (i : Nat) (x : Int) : Option ErrM:=if x < 0 ∨ 255 < x then some (.pl i Tm) else none
def Zdj (p : GPlan) : ErrM:=if p.Events < 0 ∨ 8 < p.Events then .v Tm else if 8 < p.Sems.length then .v Zdp else orN (Jc Znl 0 p.Sems)
def Zpb (x : GPortPlan) : Int:=if Zis x ≠ .nil then 0 else if x.Kind=2 ∨ x.Kind=4 then 2 else IntKind.i64.wrap (2 + IntKind.i64.wrap (x.Depth * IntKind.i64.wrap (1 + x.Size)))
def Zjj (p : GPlan) : Int:=p.Ports.foldl (fun z x=>IntKind.i64.wrap (z + IntKind.i64.wrap (3 + Zpb x))) (IntKind.i64.wrap ((IntKind.i64.wrap ((IntKind.i64.wrap ((IntKind.i64.wrap (58 + (IntKind.i64.wrap (76 * ((p.Procs.length : Nat) : Int))))) + (IntKind.i64.wrap (68 * ((p.Pages.length : Nat) : Int))))) + p.Events)) + ((p.Sems.length : Nat) : Int)))
theorem Zst (x : GPortPlan) : ∃ e,Zd9 x=some (Zpb x,e):=by
  simp only [Zd9,Zht,Option.bind_some,Zpb,Zbc,Bool.cond_eq_ite,Bool.not_eq_true',decide_eq_false_iff_not,Bool.or_eq_true,decide_eq_true_eq]
  repeat' split
  all_goals first | exact⟨_,rfl⟩ | (simp_all;done)
theorem Zuh (x : GPortPlan) : ∃ e,Zfn x=some (Zpb x,e):=by
  simp only [Zfn,Zit,Option.bind_some,Zpb,Bool.cond_eq_ite,Bool.not_eq_true',decide_eq_false_iff_not,Zir,decide_eq_true_eq]
  by_cases h : Zis x=.nil
  · simp only [h,not_true_eq_false,if_false,ne_eq];have hk : 1 ≤ x.Kind ∧ x.Kind ≤ 4 ∧ 1 ≤ x.Depth ∧ (x.Kind ≤ 2 → x.Depth=1) ∧ 1 ≤ x.Size ∧ x.Size ≤ 32:=by
      unfold Zis at h
      repeat' split at h
      all_goals first | (cases h;done) | omega
    repeat' split
    all_goals first | (exact⟨_,rfl⟩) | omega | skip
    have h1 : x.Depth=1:=by omega
    refine⟨0,?_⟩;rw [h1,Int.one_mul]
    congr 2
    have e1 : IntKind.i64.wrap (1 + x.Size)=1 + x.Size:=Wa ⟨by omega,by omega⟩;rw [e1,e1]
    congr 1
    omega
  · simp only [h,not_false_eq_true,if_true,ne_eq];exact⟨_,rfl⟩
theorem Zq1 (p : GPlan) : Zcs p=some (Zjj p):=by
  have h:=Ziq (L:=Ga p) (l:=p.Ports) (g:=fun z x=>IntKind.i64.wrap (z + IntKind.i64.wrap (3 + Zpb x))) (I:=fun _ _=>True)
    (z:=IntKind.i64.wrap ((IntKind.i64.wrap ((IntKind.i64.wrap ((IntKind.i64.wrap (58 + (IntKind.i64.wrap (76 * ((p.Procs.length : Nat) : Int))))) + (IntKind.i64.wrap (68 * ((p.Pages.length : Nat) : Int))))) + p.Events)) + ((p.Sems.length : Nat) : Int))) trivial
    (fun i x z hi hx _=>⟨by
      obtain⟨e,he⟩:=Zst x;simp only [Ga,hi,hx,decide_true,cond_true,Option.bind_some,he],trivial⟩) (fun z _=>by simp [Ga])
  simp only [Zcs,h.1,Option.bind_some,Zjj]
theorem Zsu (p : GPlan) : Zeg p=some (Zjj p):=by
  have h:=Ziq (L:=Td p) (l:=p.Ports) (g:=fun z x=>IntKind.i64.wrap (z + IntKind.i64.wrap (3 + Zpb x))) (I:=fun _ _=>True)
    (z:=IntKind.i64.wrap ((IntKind.i64.wrap ((IntKind.i64.wrap ((IntKind.i64.wrap (58 + (IntKind.i64.wrap (76 * ((p.Procs.length : Nat) : Int))))) + (IntKind.i64.wrap (68 * ((p.Pages.length : Nat) : Int))))) + p.Events)) + ((p.Sems.length : Nat) : Int))) trivial
    (fun i x z hi hx _=>⟨by
      obtain⟨e,he⟩:=Zuh x;simp only [Td,hi,hx,decide_true,cond_true,Option.bind_some,he],trivial⟩) (fun z _=>by simp [Td])
  simp only [Zeg,h.1,Option.bind_some,Zjj]
def orE (a b : ErrM) : ErrM:=if a=.nil then b else a
def Zq2 (p : GPlan) : ErrM:=orE (Zgh p) (orE (Zdj p) (if 4096 < Zjj p then .v Zdp else .nil))
theorem Zsv (p : GPlan) : Hp p=some (Zq2 p):=by
  have h2:=Uj (L:=Yp p) (l:=p.Ports) (f:=Zca) (fun i x hi hx=>by
    simp only [Yp,hi,hx,decide_true,cond_true,Option.bind_some,Zht,Zca]
    rcases Zew x with h | ⟨g,h⟩
    · rw [h];rfl
    · rw [h];rfl) (by simp [Yp])
  have h1:=Uj (L:=Yo p) (l:=p.Sems) (f:=Znl) (fun i x hi hx=>by
    simp only [Yo,hi,hx,decide_true,cond_true,Option.bind_some,Zpa,Bool.cond_eq_ite,Bool.or_eq_true,decide_eq_true_eq,Znl,Zi7,Za3,Zcp,if_true];split <;> rfl) (by simp [Yo])
  simp only [Hp,h1,h2,Zq1,Option.bind_some,Bool.cond_eq_ite,Bool.or_eq_true,decide_eq_true_eq,Zq2,Zgh,Zdj];have hp : ∀ e,Jc Zca 0 p.Ports=some e → e ≠ .nil:=by
    have key : ∀ (l : List GPortPlan) k e,Jc Zca k l=some e → e ≠ .nil:=by
      intro l
      induction l with
      | nil=>intro k e h;cases h
      | cons x r ih=>
        intro k e h
        rcases Zew x with hs | ⟨g,hs⟩
        · simp only [Jc,Zca,hs] at h;exact ih _ _ h
        · simp only [Jc,Zca,hs,Option.some.injEq] at h;subst h;intro h;cases h
    exact key _ _
  have hq : ∀ e,Jc Znl 0 p.Sems=some e → e ≠ .nil:=by
    have key : ∀ (l : List Int) k e,Jc Znl k l=some e → e ≠ .nil:=by
      intro l
      induction l with
      | nil=>intro k e h;cases h
      | cons x r ih=>
        intro k e h
        by_cases hs : x < 0 ∨ 255 < x
        · simp only [Jc,Znl,if_pos hs,Option.some.injEq] at h;subst h;intro h;cases h
        · simp only [Jc,Znl,if_neg hs] at h;exact ih _ _ h
    exact key _ _
  by_cases c1 : 8 < p.Ports.length
  · simp only [c1,if_true,orE];rfl
  simp only [c1,if_false];cases h3 : Jc Zca 0 p.Ports with
  | some e=>
    have:=hp e h3;simp only [fin,orN,Option.getD_some,orE,this,if_false]
  | none=>
    simp only [fin,orN,Option.getD_none,orE,if_true]
    by_cases c2 : p.Events < 0 ∨ 8 < p.Events
    · simp only [c2,if_true];rfl
    simp only [c2,if_false]
    by_cases c3 : 8 < p.Sems.length
    · simp only [c3,if_true];rfl
    simp only [c3,if_false];cases h4 : Jc Znl 0 p.Sems with
    | some e=>
      have:=hq e h4;simp only [fin,orN,Option.getD_some,this,if_false]
    | none=>
      simp only [fin,orN,Option.getD_none,if_true];split <;> rfl
def Zex (p : GPlan) : ErrM:=if p.Id < 0 ∨ 2147483647 < p.Id then .v Tm else orE (Zft p) (orE (Zfu p) (Zq2 p))
theorem Zme (p : GPlan) : Zct p=some (Zex p):=by
  simp only [Zct,Zqz,Zq0,Zsv,Option.bind_some,Bool.cond_eq_ite,Bool.or_eq_true,decide_eq_true_eq,Zex,Bool.not_eq_true',decide_eq_false_iff_not,orE]
  repeat' split
  all_goals first | rfl | (simp_all;done)
def eR (e : ErrM) : GR10Err:=⟨e.code,e.place⟩
theorem Zsw (p : GPlan) : Zed p=some (eR (Zft p)):=by
  have h:=Uj (L:=Gh p) (l:=p.Pages) (f:=fun i x=>(Zks i x).map eR) (fun i x hi hx=>by
    simp only [Gh,Zbs,hi,hx,decide_true,cond_true,Option.bind_some,Bool.cond_eq_ite,decide_eq_true_eq,Zks]
    by_cases c1 : x.Rights < 0
    · simp only [c1,if_true,true_or,Option.bind_some,Option.map_some,Za3];rfl
    by_cases c2 : 7 < x.Rights
    · simp only [c1,c2,if_true,if_false,decide_true,or_true,Option.bind_some,Option.map_some,Za3];rfl
    by_cases c3 : 64 < x.Init.size
    · simp [c1,c2,c3,Za3];rfl
    · simp [c1,c2,c3,Zcp]) (by simp [Gh])
  simp only [Zed,Uc,Ww,h,Zft,Option.bind_some,Bool.cond_eq_ite,Bool.or_eq_true,decide_eq_true_eq];rw [Zfs (f:=Zks) (m:=eR) _ _ fun _ _ _=>rfl];cases Jc Zks 0 p.Pages <;> (split <;> rfl)
theorem Zsx (p : GPlan) : Zee p=some (eR (Zfu p)):=by
  have h:=Uj (L:=Tb p) (l:=p.Procs) (f:=fun i x=>(Ziu p.Pages.length i x).map eR) (fun i x hi hx=>by
    by_cases c1 : x.Entry < 0 <;> by_cases c2 : IntKind.i64.wrap (64 * (p.Pages.length : Int)) ≤ x.Entry <;> by_cases c3 : Int.tmod x.Entry 4=0 <;> by_cases c4 : x.Prio < 0 <;> by_cases c5 : 255 < x.Prio
    all_goals
      simp only [Tb,Zck,hi,hx,decide_true,decide_false,cond_true,cond_false,Option.bind_some,Ziu,c1,c2,c3,c4,c5,Bool.not_true,Bool.not_false,true_or,or_true,or_false,false_or,if_true,if_false,ne_eq,not_true_eq_false,not_false_eq_true];rfl) (by simp [Tb])
  simp only [Zee,Uc,Ww,h,Zfu,Option.bind_some,Bool.cond_eq_ite,Bool.or_eq_true,decide_eq_true_eq];rw [Zfs (f:=Ziu p.Pages.length) (m:=eR) _ _ fun _ _ _=>rfl];cases Jc (Ziu p.Pages.length) 0 p.Procs <;> (split <;> rfl)
theorem Zsy (p : GPlan) : Zef p=some (eR (Zgh p)):=by
  have h:=Uj (L:=Tc p) (l:=p.Ports) (f:=fun i x=>(Zca i x).map eR) (fun i x hi hx=>by
    simp only [Tc,hi,hx,decide_true,cond_true,Option.bind_some,Zit,Bool.cond_eq_ite,Bool.not_eq_true',decide_eq_false_iff_not,Zir,Zca]
    rcases Zew x with h | ⟨g,h⟩
    · rw [h];rfl
    · rw [h,if_pos (show ¬ ErrM.v g=.nil from fun h=>by cases h)];rfl) (by simp [Tc])
  simp only [Zef,Uc,Ww,h,Zgh,Option.bind_some,Bool.cond_eq_ite,decide_eq_true_eq];rw [Zfs (f:=Zca) (m:=eR) _ _ fun _ _ _=>rfl];cases Jc Zca 0 p.Ports <;> (split <;> rfl)
theorem Zq3 (p : GPlan) : Zcw p=some (eR (Zdj p)):=by
  have h:=Uj (L:=Gj p) (l:=p.Sems) (f:=fun i x=>(Znl i x).map eR) (fun i x hi hx=>by
    by_cases c1 : x < 0 <;> by_cases c2 : 255 < x
    all_goals
      simp only [Gj,Zbt,hi,hx,decide_true,decide_false,cond_true,cond_false,Option.bind_some,Znl,c1,c2,true_or,or_true,or_false,false_or,if_true,if_false];rfl) (by simp [Gj])
  simp only [Zcw,Uc,Ww,h,Zdj,Option.bind_some,Bool.cond_eq_ite,Bool.or_eq_true,decide_eq_true_eq];rw [Zfs (f:=Znl) (m:=eR) _ _ fun _ _ _=>rfl]
  by_cases c1 : p.Events < 0 ∨ 8 < p.Events
  · simp only [c1,if_true];rfl
  by_cases c2 : 8 < p.Sems.length
  · simp only [c1,c2,if_true,if_false];rfl
  simp only [c1,c2,if_false];cases Jc Znl 0 p.Sems <;> rfl
theorem Zsz (p : GPlan) : Zeh p=some (eR (Zex p)):=by
  simp only [Zeh,Zsw,Zsx,Zsy,Zq3,Zsu,Uc,Ww,Option.bind_some,Bool.cond_eq_ite,Bool.or_eq_true,decide_eq_true_eq,Zex,Zq2,orE];have hL : ∀ i x,i < 4 → [eR (Zft p),eR (Zfu p),eR (Zgh p),eR (Zdj p)][i]? = some x → Ul (eR (Zft p)) (eR (Zfu p)) (eR (Zgh p)) (eR (Zdj p)) i=some (nxt (i + 1) (if x.Code=0 then none else some x)):=by
    intro i x hi hx;have hi' : i < [eR (Zft p),eR (Zfu p),eR (Zgh p),eR (Zdj p)].length:=hi;simp only [Ul,hi',hx,decide_true,cond_true,Option.bind_some,Bool.cond_eq_ite,Bool.not_eq_true',decide_eq_false_iff_not]
    by_cases c : x.Code=0
    · simp only [c,not_true_eq_false,if_false,if_true,Zcp]
    · simp only [c,not_false_eq_true,if_false,if_true,Za3]
  have h:=Uj (L:=Ul (eR (Zft p)) (eR (Zfu p)) (eR (Zgh p)) (eR (Zdj p))) (l:=[eR (Zft p),eR (Zfu p),eR (Zgh p),eR (Zdj p)]) (f:=fun _ x=>if x.Code=0 then none else some x) hL (by simp [Ul]);rw [h];have hc : ∀ e : ErrM,(eR e).Code=0 ↔ e=.nil:=fun e=>Zir
  simp only [Jc,hc]
  by_cases c0 : p.Id < 0 ∨ 2147483647 < p.Id
  · simp only [c0,if_true];rfl
  simp only [c0,if_false]
  by_cases c1 : Zft p=.nil
  · simp only [c1,if_true]
    by_cases c2 : Zfu p=.nil
    · simp only [c2,if_true]
      by_cases c3 : Zgh p=.nil
      · simp only [c3,if_true]
        by_cases c4 : Zdj p=.nil
        · simp only [c4,if_true];show Option.bind (some (Sum.inl ())) _=_
          by_cases c5 : 4096 < Zjj p
          · simp only [c5,if_true,Option.bind_some];rfl
          · simp only [c5,if_false,Option.bind_some];rfl
        · simp only [c4,if_false];rfl
      · simp only [c3,if_false];rfl
    · simp only [c2,if_false];rfl
  · simp only [c1,if_false];rfl
theorem Ziv (p : GPlan) : Zdz p=some (decide (Zex p=.nil)):=by
  have : ((eR (Zex p)).Code=0)=(Zex p=.nil):=propext Zir;simp only [Zdz,Zsz,Option.bind_some,this]
end Go.Proofs.YtjekfpnpfllaoaaGreatDoor
set_option linter.unusedVariables false
set_option linter.unusedSimpArgs false
set_option linter.unusedSectionVars false
namespace Go.Proofs.YtjekfpnpfllaoaaGreatDoor
open Go Go.RowKit
theorem Ziw {α : Type} {l : List α} {i : Nat} {x : α} (h : l[i]? = some x) : l.take (i + 1)=l.take i ++ [x]:=by rw [List.take_add_one,h];rfl
section
variable {σ ρ α : Type}
theorem Zd1 {L : σ → Option (σ ⊕ ρ)} (I : σ → Prop) (Q : ρ → Prop) (μ : σ → Nat)
    (h : ∀ s,I s → (∃ s',L s=some (.inl s') ∧ I s' ∧ μ s' < μ s) ∨ (∃ r,L s=some (.inr r) ∧ Q r)) {s : σ} (h0 : I s) : ∃ r,Kj L s=some r ∧ Q r:=by
  have key : ∀ n s,μ s < n → I s → ∃ r,Kj L s=some r ∧ Q r:=by
    intro n
    induction n with
    | zero=>intro s hs;omega
    | succ n ih=>
      intro s hs hI
      rcases h s hI with ⟨s',h1,h2,h3⟩ | ⟨r,h1,h2⟩
      · obtain⟨r,h4,h5⟩:=ih s' (by omega) h2;exact⟨r,(Uu h1).trans h4,h5⟩
      · exact⟨r,Wl h1,h2⟩
  exact key _ s (Nat.lt_succ_self _) h0
theorem Zhb {f : Nat → α → Option ErrM} (hf : ∀ i x,f i x ≠ some .nil) : ∀ {l : List α} {k : Nat},orN (Jc f k l)=.nil → ∀ i x,l[i]? = some x → f (k + i) x=none
  | [],_,_,i,x,hx=>by simp at hx
  | y :: r,k,h,i,x,hx=>by
    cases hy : f k y with
    | some e=>
      simp only [Jc,hy,orN,Option.getD_some] at h;subst h;exact absurd hy (hf k y)
    | none=>
      simp only [Jc,hy] at h;cases i with
      | zero=>
        have : y=x:=by simpa using hx
        subst this;exact hy
      | succ j=>
        have:=Zhb hf h j x (by simpa using hx)
        rwa [show k + 1 + j=k + (j + 1) by omega] at this
end
theorem Zjz {a b : ErrM} (h : orE a b=.nil) : a=.nil ∧ b=.nil:=by
  unfold orE at h
  by_cases c : a=.nil
  · rw [if_pos c] at h;exact⟨c,h⟩
  · rw [if_neg c] at h;exact absurd h c
structure OkK (p : GPlan) : Prop where
  id0 : 0 ≤ p.Id
  id1 : p.Id ≤ 2147483647
  pg0 : 1 ≤ p.Pages.length
  pg1 : p.Pages.length ≤ 32
  pr0 : 1 ≤ p.Procs.length
  pr1 : p.Procs.length ≤ 8
  po1 : p.Ports.length ≤ 8
  ev0 : 0 ≤ p.Events
  ev1 : p.Events ≤ 8
  se1 : p.Sems.length ≤ 8
  pag : ∀ x ∈ p.Pages,0 ≤ x.Rights ∧ x.Rights ≤ 7 ∧ x.Init.size ≤ 64
  prio : ∀ x ∈ p.Procs,0 ≤ x.Prio ∧ x.Prio ≤ 255 ∧ 0 ≤ x.Entry ∧ x.Entry < 2048 ∧ x.Entry < 64 * (p.Pages.length : Int) ∧ Int.tmod x.Entry 4=0
  dep : ∀ x ∈ p.Ports,Zis x=.nil ∧ 1 ≤ x.Kind ∧ x.Kind ≤ 4 ∧ 1 ≤ x.Size ∧ x.Size ≤ 32 ∧ 1 ≤ x.Depth ∧ x.Depth ≤ 8 ∧ 0 ≤ x.Refresh ∧ x.Refresh ≤ 255
  bnd : Zjj p ≤ 4096
  sem : ∀ n ∈ p.Sems,0 ≤ n ∧ n ≤ 255
theorem okK_of {p : GPlan} (h : Zex p=.nil) : OkK p:=by
  unfold Zex at h
  by_cases c0 : p.Id < 0 ∨ 2147483647 < p.Id
  · rw [if_pos c0] at h;cases h
  rw [if_neg c0] at h;obtain⟨h1,h2⟩:=Zjz h;obtain⟨h2,h3⟩:=Zjz h2;unfold Zq2 at h3;obtain⟨h3,h4⟩:=Zjz h3;obtain⟨h4,h5⟩:=Zjz h4;unfold Zft at h1
  by_cases c1 : p.Pages.length < 1 ∨ 32 < p.Pages.length
  · rw [if_pos c1] at h1;cases h1
  rw [if_neg c1] at h1;have c6 : ¬ 4096 < Zjj p:=fun h=>by rw [if_pos h] at h5;cases h5
  have hw : IntKind.i64.wrap (64 * (p.Pages.length : Int))=64 * (p.Pages.length : Int):=Wa ⟨by omega,by omega⟩;unfold Zfu at h2
  by_cases c2 : p.Procs.length < 1 ∨ 8 < p.Procs.length
  · rw [if_pos c2] at h2;cases h2
  rw [if_neg c2] at h2;unfold Zgh at h3
  by_cases c3 : 8 < p.Ports.length
  · rw [if_pos c3] at h3;cases h3
  rw [if_neg c3] at h3;unfold Zdj at h4
  by_cases c4 : p.Events < 0 ∨ 8 < p.Events
  · rw [if_pos c4] at h4;cases h4
  rw [if_neg c4] at h4
  by_cases c5 : 8 < p.Sems.length
  · rw [if_pos c5] at h4;cases h4
  rw [if_neg c5] at h4;refine⟨by omega,by omega,by omega,by omega,by omega,by omega,by omega,by omega,by omega,by omega,fun x hx=>?_,fun x hx=>?_,fun x hx=>?_,by omega,fun x hx=>?_⟩
  · obtain⟨i,hi⟩:=List.mem_iff_getElem?.1 hx;have:=Zhb (f:=Zks) (fun i x=>by unfold Zks;(repeat' split) <;> intro h <;> cases h) h1 i x hi;unfold Zks at this
    repeat' split at this
    all_goals first | (cases this;done) | omega
  · obtain⟨i,hi⟩:=List.mem_iff_getElem?.1 hx;have:=Zhb (f:=Ziu p.Pages.length) (fun i x=>by unfold Ziu;split <;> intro h <;> cases h) h2 i x hi;unfold Ziu at this;rw [hw] at this;split at this
    · cases this
    · omega
  · obtain⟨i,hi⟩:=List.mem_iff_getElem?.1 hx;have:=Zhb (f:=Zca) (fun i x=>by unfold Zca;split <;> intro h <;> cases h) h3 i x hi;unfold Zca at this
    rcases Zew x with e | ⟨g,e⟩
    · refine⟨e,?_⟩;unfold Zis at e
      repeat' split at e
      all_goals first | (cases e;done) | omega
    · rw [e] at this;cases this
  · obtain⟨i,hi⟩:=List.mem_iff_getElem?.1 hx;have:=Zhb (f:=Znl) (fun i x=>by unfold Znl;split <;> intro h <;> cases h) h4 i x hi;unfold Znl at this;split at this
    · cases this
    · omega
section
variable {α : Type}
theorem Zkt (q : α → Bool) : ∀ (l : List α) (k : Nat),Jc (fun _ x=>if q x=true then none else some false) k l=if l.all q=true then none else some false
  | [],_=>rfl
  | x :: r,k=>by
    have ih:=Zkt q r (k + 1)
    rcases Bool.eq_false_or_eq_true (q x) with h|h <;> simp [Jc,h,ih]
theorem Zku {L : Nat → Option (Nat ⊕ (Unit ⊕ Bool))} {a b : List α} (q : α → α → Bool) (hl : a.length=b.length)
    (h : ∀ i x y,i < a.length → a[i]? = some x → b[i]? = some y → L i=some (if q x y=true then .inl (i + 1) else .inr (.inr false))) (h2 : L a.length=some (.inr (.inl ()))) :
    Kj L 0=some (if (a.zip b).all (fun p=>q p.1 p.2)=true then .inl () else .inr false):=by
  have hz : (a.zip b).length=a.length:=by rw [List.length_zip,← hl,Nat.min_self]
  have hL:=Uj (L:=L) (l:=a.zip b) (f:=fun _ p=>if q p.1 p.2=true then none else some false) (fun i p hi hp=>by
    obtain⟨h3,h4⟩:=List.getElem?_zip_eq_some.1 hp;rw [h i p.1 p.2 (by omega) h3 h4,Zi7,Zcp,Za3]) (by rw [hz];exact h2)
  rw [hL,Zkt (fun p : α × α=>q p.1 p.2)];split <;> rfl
theorem Zpc [DecidableEq α] : ∀ {a b : List α},a.length=b.length → (((a.zip b).all fun p=>decide (p.1=p.2))=true ↔ a=b)
  | [],[],_=>by simp
  | [],y :: b,h=>by simp at h
  | x :: a,[],h=>by simp at h
  | x :: a,y :: b,h=>by
    have ih:=Zpc (a:=a) (b:=b) (by simpa using h);simp only [List.zip_cons_cons,List.all_cons,Bool.and_eq_true,decide_eq_true_eq,List.cons.injEq,ih]
theorem Za4 {L : Nat → Option (Nat ⊕ (Unit ⊕ Bool))} {a b : List α} [DecidableEq α] (hl : a.length=b.length)
    (h : ∀ i x y,i < a.length → a[i]? = some x → b[i]? = some y → L i=some (if decide (x=y)=true then .inl (i + 1) else .inr (.inr false))) (h2 : L a.length=some (.inr (.inl ()))) :
    Kj L 0=some (if a=b then .inl () else .inr false):=by
  rw [Zku (fun x y=>decide (x=y)) hl h h2]
  congr 1
  by_cases e : a=b
  · rw [if_pos e,if_pos ((Zpc hl).2 e)]
  · rw [if_neg e,if_neg (fun h=>e ((Zpc hl).1 h))]
end
theorem Zey {α : Type} {a b : List α} (h : ¬ a.length=b.length) : ¬ a=b:=fun e=>h (by rw [e])
abbrev Zq4 : Nat:=140737488355328
def Zpd (p : GPlan) : Prop:=p.Pages.length * 24 ≤ Zq4 ∧ p.Procs.length * 24 ≤ Zq4 ∧ p.Ports.length * 32 ≤ Zq4 ∧ p.Sems.length * 8 ≤ Zq4
theorem Zhc (p : GPlan) (h : Zpd p) : Zag p=some p:=by
  obtain⟨h1,h2,h3,h4⟩:=h;simp only [Zq4] at *;simp only [Zag,List.nil_append,List.length_nil,Nat.zero_add,chk,h1,h2,h3,h4,if_true]
theorem Zq5 (a b : List Int) : Kz a b=some (decide (a=b)):=by
  by_cases hl : a.length=b.length
  · have h:=Za4 (L:=Kp a b) hl (fun i x y hi hx hy=>by
      simp only [Kp,hi,hx,hy,decide_true,cond_true,Option.bind_some]
      by_cases e : x=y <;> simp [e]) (by simp [Kp])
    simp only [Kz,hl,decide_true,Bool.not_true,cond_false,h,Option.bind_some]
    by_cases e : a=b <;> simp [e]
  · simp only [Kz,hl,decide_false,Bool.not_false,cond_true,Zey hl]
section
variable {α σ τ : Type}
def Zh8 (q : Nat → α → Bool) : Nat → List α → Bool
  | _,[]=>true
  | k,x :: r=>q k x && Zh8 q (k + 1) r
theorem Wr (q : α → Bool) : ∀ (l : List α) (k : Nat),Zh8 (fun _ x=>q x) k l=l.all q
  | [],_=>rfl
  | x :: r,k=>by simp only [Zh8,List.all_cons,Wr q r (k + 1)]
theorem Zj0 {q : Nat → α → Bool} : ∀ {l : List α} {k : Nat},Zh8 q k l=true ↔ ∀ i x,l[i]? = some x → q (k + i) x=true
  | [],k=>by simp [Zh8]
  | x :: r,k=>by
    rw [Zh8,Bool.and_eq_true,Zj0];constructor
    · intro ⟨h1,h2⟩ i y hy;cases i with
      | zero=>
        have : x=y:=by simpa using hy
        subst this;exact h1
      | succ j=>have := h2 j y (by simpa using hy);rwa [show k + (j + 1)=k + 1 + j by omega]
    · intro h;exact⟨h 0 x rfl,fun i y hy=>(show k + (i + 1)=k + 1 + i by omega) ▸ h (i + 1) y (by simpa using hy)⟩
theorem Zkv {L : σ × Nat → Option ((σ × Nat) ⊕ (τ ⊕ Bool))} {l : List α} (st : Nat → σ) {z : τ} (q : Nat → α → Bool)
    (h : ∀ i x,i < l.length → l[i]? = some x → L (st i,i)=some (if q i x=true then .inl (st (i + 1),i + 1) else .inr (.inr false))) (h2 : L (st l.length,l.length)=some (.inr (.inl z))) :
    Kj L (st 0,0)=some (if Zh8 q 0 l=true then .inl z else .inr false):=by
  have key : ∀ m k,k + m=l.length → Kj L (st k,k)=some (if Zh8 q k (l.drop k)=true then .inl z else .inr false):=by
    intro m
    induction m with
    | zero=>
      intro k hk;obtain rfl : k=l.length:=by omega
      rw [Wl h2,List.drop_length];rfl
    | succ m ih=>
      intro k hk;have hlt : k < l.length:=by omega
      have hx : l[k]? = some l[k]:=List.getElem?_eq_getElem hlt;have hs:=h k _ hlt hx;rw [List.drop_eq_getElem_cons hlt,Zh8]
      rcases Bool.eq_false_or_eq_true (q k l[k]) with e|e
      · rw [if_pos e] at hs;rw [Uu hs,ih (k + 1) (by omega),e,Bool.true_and]
      · rw [if_neg (by simp [e])] at hs;rw [Wl hs,e];rfl
  simpa using key l.length 0 (by omega)
theorem Wk {L : Nat → Option (Nat ⊕ (τ ⊕ Bool))} {l : List α} {z : τ} (q : Nat → α → Bool)
    (h : ∀ i x,i < l.length → l[i]? = some x → L i=some (if q i x=true then .inl (i + 1) else .inr (.inr false))) (h2 : L l.length=some (.inr (.inl z))) :
    Kj L 0=some (if Zh8 q 0 l=true then .inl z else .inr false):=by
  have key : ∀ m k,k + m=l.length → Kj L k=some (if Zh8 q k (l.drop k)=true then .inl z else .inr false):=by
    intro m
    induction m with
    | zero=>
      intro k hk;obtain rfl : k=l.length:=by omega
      rw [Wl h2,List.drop_length];rfl
    | succ m ih=>
      intro k hk;have hlt : k < l.length:=by omega
      have hx : l[k]? = some l[k]:=List.getElem?_eq_getElem hlt;have hs:=h k _ hlt hx;rw [List.drop_eq_getElem_cons hlt,Zh8]
      rcases Bool.eq_false_or_eq_true (q k l[k]) with e|e
      · rw [if_pos e] at hs;rw [Uu hs,ih (k + 1) (by omega),e,Bool.true_and]
      · rw [if_neg (by simp [e])] at hs;rw [Wl hs,e];rfl
  simpa using key l.length 0 (by omega)
theorem Zdb {L : Int → Option (Int ⊕ (τ ⊕ Bool))} {l : List α} {z : τ} (q : Nat → α → Bool)
    (h : ∀ (i : Nat) x,i < l.length → l[i]? = some x → L (i : Int)=some (if q i x=true then .inl ((i + 1 : Nat) : Int) else .inr (.inr false))) (h2 : L (l.length : Int)=some (.inr (.inl z))) :
    Kj L 0=some (if Zh8 q 0 l=true then .inl z else .inr false):=by
  have key : ∀ m (k : Nat),k + m=l.length → Kj L (k : Int)=some (if Zh8 q k (l.drop k)=true then .inl z else .inr false):=by
    intro m
    induction m with
    | zero=>
      intro k hk;obtain rfl : k=l.length:=by omega
      rw [Wl h2,List.drop_length];rfl
    | succ m ih=>
      intro k hk;have hlt : k < l.length:=by omega
      have hx : l[k]? = some l[k]:=List.getElem?_eq_getElem hlt;have hs:=h k _ hlt hx;rw [List.drop_eq_getElem_cons hlt,Zh8]
      rcases Bool.eq_false_or_eq_true (q k l[k]) with e|e
      · rw [if_pos e] at hs;rw [Uu hs,ih (k + 1) (by omega),e,Bool.true_and]
      · rw [if_neg (by simp [e])] at hs;rw [Wl hs,e];rfl
  simpa using key l.length 0 (by omega)
theorem Zkw (b : α → Bool) : ∀ (l : List α) (k : Nat),match Jc (fun i x=>if b x=true then some ((i : Nat) : Int) else none) k l with
    | none=>l.any b=false
    | some e=>l.any b=true ∧ 0 ≤ e
  | [],_=>rfl
  | x :: r,k=>by
    by_cases h : b x=true
    · simp only [Jc,h,if_true,List.any_cons,Bool.true_or,true_and];omega
    · have ih:=Zkw b r (k + 1);simp only [Bool.not_eq_true] at h;simp only [Jc,h,Bool.false_eq_true,if_false,List.any_cons,Bool.false_or];exact ih
end
theorem Zob (l : List Int) (f : Int → Option Bool) (b : Int → Bool) (hf : ∀ x,f x=some (b x)) : Ka l f=some (l.any b):=by
  have h:=Uj (L:=Xx l f) (l:=l) (f:=fun i x=>if b x=true then some ((i : Nat) : Int) else none) (fun i x hi hx=>by
    simp only [Xx,hi,hx,decide_true,cond_true,Option.bind_some,hf,Bool.cond_eq_ite,Zi7,Za3,Zcp,if_true];split <;> rfl) (by simp [Xx])
  simp only [Ka,Wo,h];have hk:=Zkw b l 0;cases he : Jc (fun i x=>if b x=true then some ((i : Nat) : Int) else none) 0 l with
  | none=>rw [he] at hk;rw [hk];rfl
  | some e=>rw [he] at hk;rw [hk.1];simp [fin,hk.2]
theorem Zkx (l : List ByteArray) (f : ByteArray → Option Bool) (b : ByteArray → Bool) (hf : ∀ x,f x=some (b x)) : Ja l f=some (l.any b):=by
  have h:=Uj (L:=Xl l f) (l:=l) (f:=fun i x=>if b x=true then some ((i : Nat) : Int) else none) (fun i x hi hx=>by
    simp only [Xl,hi,hx,decide_true,cond_true,Option.bind_some,hf,Bool.cond_eq_ite,Zi7,Za3,Zcp,if_true];split <;> rfl) (by simp [Xl])
  simp only [Ja,Yw,h];have hk:=Zkw b l 0;cases he : Jc (fun i x=>if b x=true then some ((i : Nat) : Int) else none) 0 l with
  | none=>rw [he] at hk;rw [hk];rfl
  | some e=>rw [he] at hk;rw [hk.1];simp [fin,hk.2]
def bt (n lo hi : Int) : Bool:=decide (lo ≤ n) && decide (n ≤ hi)
def wn (n m : Int) : Bool:=decide (0 ≤ n) && decide (n < m)
theorem Zdx (n lo hi : Int) : Ji n lo hi=some (bt n lo hi):=rfl
theorem Tx (n m : Int) : Jj n m=some (wn n m):=rfl
theorem Zh9 {α : Type} {l : List α} {n : Int} (h : wn n l.length=true) : ∃ x,rdI l n=some x:=by
  simp only [wn,Bool.and_eq_true,decide_eq_true_eq] at h;have hz : n.toNat < l.length:=by omega
  exact⟨l[n.toNat],by simp [rdI,h.1,hz]⟩
theorem Zoc {n a b : Int} (h : wn n a=true) (hab : a ≤ b) : wn n b=true:=by
  simp only [wn,Bool.and_eq_true,decide_eq_true_eq] at h ⊢;omega
def Zrn (s : GState) (n : Int) : Int:=match rdI s.Procs n with
  | some x=>x.State
  | none=>0
def pkAt (p : GPlan) (n : Int) : Int:=match rdI p.Ports n with
  | some x=>x.Kind
  | none=>0
def mn (a b : Int) : Int:=if b < a then b else a
theorem Zod (a b : Int) : mn a b ≤ a ∧ mn a b ≤ b:=by unfold mn;split <;> omega
theorem Zwc (a b : Int) : mn a b=mn b a:=by unfold mn;split <;> split <;> omega
def K1 (p : GPlan) (s : GState) : Bool:=decide (s.Id=p.Id)
def K2 (s : GState) : Bool:=bt s.Frame 0 2147483647 && bt s.Epoch 0 2147483647
def K3 (p : GPlan) (s : GState) : Bool:=decide (s.Procs.length=p.Procs.length) && decide (s.Ports.length=p.Ports.length) && decide (s.Pages.length=p.Pages.length) && decide ((s.Up.length : Int)=p.Events) && decide (s.Sems.length=p.Sems.length)
def k4 (x : GProc) : Bool:=decide (x.Regs[0]=0) && bt x.State 0 3 && bt x.Prio 0 255 && bt x.Wait 0 4
def K4 (s : GState) : Bool:=s.Procs.all k4
def k5 (x : GProc) : Bool:=(!decide (x.Wait=0)) == decide (x.State=2)
def K5 (s : GState) : Bool:=s.Procs.all k5
def k6 (p : GPlan) (x : GProc) : Bool:=if x.Wait=2 then wn x.Obj p.Events else if x.Wait=3 then wn x.Obj p.Sems.length else if x.Wait=4 then wn x.Obj p.Ports.length && (decide (pkAt p x.Obj=3) || decide (pkAt p x.Obj=4)) else decide (x.Obj=0)
def K6 (p : GPlan) (s : GState) : Bool:=s.Procs.all (k6 p)
def q7 (s : GState) (i : Nat) (n : Int) : Bool:=wn n s.Procs.length && !decide (n ∈ s.Ready.take i) && decide (Zrn s n=1)
def q7b (s : GState) (i : Nat) (x : GProc) : Bool:=!decide (x.State=1) || decide (((i : Nat) : Int) ∈ s.Ready)
def K7 (s : GState) : Bool:=Zh8 (q7 s) 0 s.Ready && Zh8 (q7b s) 0 s.Procs
def Zpe (s : GState) (i : Nat) (t : GTimer) : Bool:=match i with
  | 0=>true
  | j + 1=>match s.Timers[j]? with
    | some y=>!(decide (t.Due < y.Due) || (decide (y.Due=t.Due) && decide (t.Proc ≤ y.Proc)))
    | none=>true
def q8 (s : GState) (i : Nat) (t : GTimer) : Bool:=wn t.Proc s.Procs.length && !decide (t.Proc ∈ (s.Timers.map GTimer.Proc).take i) && bt t.Due 0 1010000 && Zpe s i t
def K8 (s : GState) : Bool:=Zh8 (q8 s) 0 s.Timers
def q9 (s : GState) (_ : Nat) (t : GTimer) : Bool:=!(wn t.Proc s.Procs.length && !decide (Zrn s t.Proc=2))
def q9b (s : GState) (i : Nat) (x : GProc) : Bool:=!decide (x.Wait=1) || decide (((i : Nat) : Int) ∈ s.Timers.map GTimer.Proc)
def K9 (s : GState) : Bool:=Zh8 (q9 s) 0 s.Timers && Zh8 (q9b s) 0 s.Procs
def K10 (s : GState) : Bool:=s.Sems.all fun n=>bt n 0 255
def k11 (a : GPortPlan × GPort) : Bool:=decide ((a.2.Msgs.length : Int) ≤ a.1.Depth) && !(a.2.Msgs.any fun m=>decide (a.1.Size < (m.size : Int)))
def K11 (p : GPlan) (s : GState) : Bool:=(p.Ports.zip s.Ports).all k11
def k12 (a : GPortPlan × GPort) : Bool:=bt a.2.Age 0 255 && (decide (a.2.Age=0) || (decide (a.1.Kind=1) && decide (0 < a.2.Msgs.length)))
def K12 (p : GPlan) (s : GState) : Bool:=(p.Ports.zip s.Ports).all k12
def K13 (p : GPlan) (s : GState) : Bool:=(p.Pages.zip s.Pages).all fun a=>decide (a.1.Rights=a.2.Rights)
def upAt (s : GState) (n : Int) : Bool:=(rdI s.Up n).getD false
def smAt (s : GState) (n : Int) : Int:=(rdI s.Sems n).getD 0
def k14 (p : GPlan) (s : GState) (x : GProc) : Bool:=!(decide (x.Wait=2) && wn x.Obj (mn s.Up.length p.Events) && upAt s x.Obj)
def K14 (p : GPlan) (s : GState) : Bool:=s.Procs.all (k14 p s)
def k15 (p : GPlan) (s : GState) (x : GProc) : Bool:=!(decide (x.Wait=3) && wn x.Obj (mn s.Sems.length p.Sems.length) && !decide (smAt s x.Obj=0))
def K15 (p : GPlan) (s : GState) : Bool:=s.Procs.all (k15 p s)
def k16i (q : GPortPlan) (r : GPort) : Bool:=if q.Kind=3 then decide (r.Msgs.length=0) else if q.Kind=4 then decide ((r.Msgs.length : Int)=q.Depth) else true
def k16 (p : GPlan) (s : GState) (x : GProc) : Bool:=if decide (x.Wait=4) && wn x.Obj (mn p.Ports.length s.Ports.length) then (match rdI p.Ports x.Obj,rdI s.Ports x.Obj with
  | some q,some r=>k16i q r
  | _,_=>true) else true
def K16 (p : GPlan) (s : GState) : Bool:=s.Procs.all (k16 p s)
def k17 (a : GPortPlan × GPort) : Bool:=!(decide (a.1.Kind=2) || decide (a.1.Kind=4)) || decide (a.2.Msgs.length=0)
def K17 (p : GPlan) (s : GState) : Bool:=(p.Ports.zip s.Ports).all k17
def Zu9 (s : GState) : Prop:=s.Timers.length ≤ 140737488355328 ∧ s.Ports.length ≤ 140737488355328 ∧ s.Pages.length ≤ 140737488355328
theorem Zcf (a : GValidAsked) {f : GProc → Option Bool} {b : GProc → Bool} (hf : ∀ x,f x=some (b x)) : Xk a f=some (a.s_.Procs.all b):=by
  have h:=Wk (L:=Ju a f) (l:=a.s_.Procs) (z:=()) (fun _ x=>b x) (fun i x hi hx=>by
    simp only [Ju,hi,hx,decide_true,cond_true,Option.bind_some,hf]
    rcases Bool.eq_false_or_eq_true (b x) with e|e <;> simp [e]) (by simp [Ju])
  rw [Wr] at h;simp only [Xk,h]
  rcases Bool.eq_false_or_eq_true (a.s_.Procs.all b) with e|e <;> simp [e]
theorem Zs0 {α β : Type} (l : List α) (r : List β) : ((l.zip r).length : Int)=if (r.length : Int) < (l.length : Int) then (r.length : Int) else (l.length : Int):=by
  rw [List.length_zip];split <;> omega
theorem Zia (a : GValidAsked) {f : GPortPlan → GPort → Option Bool} {b : GPortPlan × GPort → Bool} (hok : Zu9 a.s_) (hf : ∀ x y,f x y=some (b (x,y))) : Kg a f=some ((a.p_.Ports.zip a.s_.Ports).all b):=by
  have hz:=Zs0 a.p_.Ports a.s_.Ports;have h:=Zdb (L:=Jw a f) (l:=a.p_.Ports.zip a.s_.Ports) (z:=()) (fun _ x=>b x) (fun i x hi hx=>by
    obtain⟨h1,h2⟩:=List.getElem?_zip_eq_some.1 hx;have hi' : ((i : Nat) : Int) < ((a.p_.Ports.zip a.s_.Ports).length : Int):=by omega
    rw [hz] at hi';have hl : i < a.s_.Ports.length:=(List.getElem?_eq_some_iff.1 h2).1;have hw : IntKind.i64.wrap ((i : Int) + 1)=((i + 1 : Nat) : Int):=by have:=hok.2.1;rw [Wa ⟨by omega,by omega⟩];rfl
    have e1 : rdI a.p_.Ports (i : Int)=some x.1:=by simp [rdI,h1]
    have e2 : rdI a.s_.Ports (i : Int)=some x.2:=by simp [rdI,h2]
    simp only [Jw,hi',e1,e2,hw,decide_true,cond_true,Option.bind_some,hf]
    rcases Bool.eq_false_or_eq_true (b x) with e|e <;> simp [e]) (by
    rw [hz];simp only [Jw,Int.lt_irrefl,decide_false,cond_false])
  rw [Wr] at h;simp only [Kg,h]
  rcases Bool.eq_false_or_eq_true ((a.p_.Ports.zip a.s_.Ports).all b) with e|e <;> simp [e]
theorem Zoe (a : GValidAsked) (hok : Zu9 a.s_) : Vn a=some (K13 a.p_ a.s_):=by
  have hz:=Zs0 a.p_.Pages a.s_.Pages;have h:=Zdb (L:=Jp a) (l:=a.p_.Pages.zip a.s_.Pages) (z:=()) (fun _ x=>decide (x.1.Rights=x.2.Rights)) (fun i x hi hx=>by
    obtain⟨h1,h2⟩:=List.getElem?_zip_eq_some.1 hx;have hi' : ((i : Nat) : Int) < ((a.p_.Pages.zip a.s_.Pages).length : Int):=by omega
    rw [hz] at hi';have hl : i < a.s_.Pages.length:=(List.getElem?_eq_some_iff.1 h2).1;have hw : IntKind.i64.wrap ((i : Int) + 1)=((i + 1 : Nat) : Int):=by have:=hok.2.2;rw [Wa ⟨by omega,by omega⟩];rfl
    have e1 : rdI a.p_.Pages (i : Int)=some x.1:=by simp [rdI,h1]
    have e2 : rdI a.s_.Pages (i : Int)=some x.2:=by simp [rdI,h2]
    simp only [Jp,hi',e1,e2,hw,decide_true,cond_true,Option.bind_some]
    by_cases e : x.1.Rights=x.2.Rights <;> simp [e]) (by
    rw [hz];simp only [Jp,Int.lt_irrefl,decide_false,cond_false])
  rw [Wr] at h;simp only [Vn,h,K13]
  generalize (List.all _ _ : Bool)=b
  rcases Bool.eq_false_or_eq_true b with e|e <;> simp [e]
theorem Zne (x : GProc) : Gb x=some (k4 x):=by
  have h0 : rdV x.Regs 0=some x.Regs[0]:=by simp [rdV]
  simp only [Gb,h0,Zdx,Option.bind_some,k4]
  by_cases e : x.Regs[0]=0
  · rcases Bool.eq_false_or_eq_true (bt x.State 0 3) with e1 | e1 <;> rcases Bool.eq_false_or_eq_true (bt x.Prio 0 255) with e2 | e2 <;> rcases Bool.eq_false_or_eq_true (bt x.Wait 0 4) with e3 | e3 <;> simp [e,e1,e2,e3]
  · simp [e]
theorem Zof (p : GPlan) (s : GState) (x : GProc) : Yf ⟨p,s⟩ x=some (k6 p x):=by
  simp only [Yf,Tx,Option.bind_some,k6]
  by_cases e2 : x.Wait=2
  · simp [e2]
  · by_cases e3 : x.Wait=3
    · simp [e3]
    · by_cases e4 : x.Wait=4
      · rcases Bool.eq_false_or_eq_true (wn x.Obj p.Ports.length) with e | e
        · obtain⟨y,hy⟩:=Zh9 e;have hk : pkAt p x.Obj=y.Kind:=by unfold pkAt;rw [hy]
          by_cases e5 : y.Kind=3 <;> simp [e4,e,hy,hk,e5]
        · simp [e4,e]
      · simp [e2,e3,e4]
theorem Zpf (p : GPlan) (s : GState) (x : GProc) : Km x s p=some (k14 p s x):=by
  have hm : (if p.Events < (s.Up.length : Int) then p.Events else (s.Up.length : Int))=mn s.Up.length p.Events:=rfl;simp only [Km,Tx,Option.bind_some,k14,hm]
  by_cases e : x.Wait=2
  · rcases Bool.eq_false_or_eq_true (wn x.Obj (mn s.Up.length p.Events)) with e1 | e1
    · obtain⟨y,hy⟩:=Zh9 (Zoc e1 (Zod _ _).1);simp [e,e1,hy,upAt]
    · simp [e,e1]
  · simp [e]
theorem Zpg (p : GPlan) (s : GState) (x : GProc) : Kn x s p=some (k15 p s x):=by
  have hm : (if (p.Sems.length : Int) < (s.Sems.length : Int) then (p.Sems.length : Int) else (s.Sems.length : Int))=mn s.Sems.length p.Sems.length:=rfl;simp only [Kn,Tx,Option.bind_some,k15,hm]
  by_cases e : x.Wait=3
  · rcases Bool.eq_false_or_eq_true (wn x.Obj (mn s.Sems.length p.Sems.length)) with e1 | e1
    · obtain⟨y,hy⟩:=Zh9 (Zoc e1 (Zod _ _).1);simp [e,e1,hy,smAt]
    · simp [e,e1]
  · simp [e]
theorem Zog (p : GPlan) (s : GState) (x : GProc) : Yg ⟨p,s⟩ x=some (k16 p s x):=by
  have hm : (if (s.Ports.length : Int) < (p.Ports.length : Int) then (s.Ports.length : Int) else (p.Ports.length : Int))=mn p.Ports.length s.Ports.length:=rfl;simp only [Yg,Vt,Vs,Tx,Option.bind_some,k16,hm]
  by_cases e : x.Wait=4
  · rcases Bool.eq_false_or_eq_true (wn x.Obj (mn p.Ports.length s.Ports.length)) with e1 | e1
    · obtain⟨y,hy⟩:=Zh9 (Zoc e1 (Zod _ _).1);obtain⟨z,hz⟩:=Zh9 (Zoc e1 (Zod _ _).2)
      by_cases e3 : y.Kind=3
      · simp [e,e1,hy,hz,k16i,e3]
      · by_cases e4 : y.Kind=4 <;> simp [e,e1,hy,hz,k16i,e3,e4]
    · simp [e,e1]
  · simp [e]
theorem Zph (q : GPortPlan) (r : GPort) : Kk q r=some (k11 (q,r)):=by
  simp only [Kk,Zkx r.Msgs (fun x0=>Kx x0 q) (fun m=>decide (q.Size < (m.size : Int))) (fun _=>rfl),Option.bind_some,k11]
  by_cases e : (r.Msgs.length : Int) ≤ q.Depth <;> simp [e]
theorem Zpi (q : GPortPlan) (r : GPort) : Kl q r=some (k12 (q,r)):=by
  simp only [Kl,Zdx,Option.bind_some,k12]
  rcases Bool.eq_false_or_eq_true (bt r.Age 0 255) with e|e
  · by_cases e1 : r.Age=0
    · have e' : bt 0 0 255=true:=rfl;simp [e',e1]
    · by_cases e2 : q.Kind=1 <;> simp [e,e1,e2]
  · simp [e]
theorem Zpj (q : GPortPlan) (r : GPort) : Ko q r=some (k17 (q,r)):=by
  simp only [Ko,Zdq,Option.bind_some,k17]
  by_cases e2 : q.Kind=2
  · simp [e2]
  · by_cases e4 : q.Kind=4 <;> simp [e2,e4]
theorem Vv {α : Type} {l : List α} {i : Nat} {x : α} (h : l[i]? = some x) : l.take (i + 1)=l.take i ++ [x]:=by rw [List.take_add_one,h];rfl
theorem Zpk (p : GPlan) (s : GState) : Wb ⟨p,s⟩=some (K7 s):=by
  have h1:=Zkv (L:=Jm ⟨p,s⟩) (l:=s.Ready) (fun i=>s.Ready.take i) (z:=s.Ready) (q7 s) (fun i x hi hx=>by
    simp only [Jm,Vo,hi,hx,decide_true,cond_true,Option.bind_some,Tx,q7]
    rcases Bool.eq_false_or_eq_true (wn x s.Procs.length) with e|e
    · obtain⟨y,hy⟩:=Zh9 e;have hk : Zrn s x=y.State:=by unfold Zrn;rw [hy]
      by_cases e1 : x ∈ s.Ready.take i
      · simp [e,e1]
      · by_cases e2 : y.State=1 <;> simp [e,e1,e2,hy,hk,Zjy e1,Vv hx]
    · simp [e]) (by simp [Jm])
  have h2:=Wk (L:=Jl ⟨p,s⟩ s.Ready) (l:=s.Procs) (z:=()) (q7b s) (fun i x hi hx=>by
    simp only [Jl,Vp,hi,hx,decide_true,cond_true,Option.bind_some,q7b]
    by_cases e1 : x.State=1
    · by_cases e2 : ((i : Nat) : Int) ∈ s.Ready <;> simp [e1,e2]
    · simp [e1]) (by simp [Jl])
  rw [List.take_zero] at h1;simp only [Wb,h1,Option.bind_some,K7]
  rcases Bool.eq_false_or_eq_true (Zh8 (q7 s) 0 s.Ready) with e|e
  · simp only [e,if_true,h2,Option.bind_some,Bool.true_and]
    rcases Bool.eq_false_or_eq_true (Zh8 (q7b s) 0 s.Procs) with e3|e3 <;> simp [e3]
  · simp [e]
theorem Zq6 (p : GPlan) (s : GState) (hok : Zu9 s) : Wz ⟨p,s⟩=some (K8 s):=by
  have h1:=Zkv (L:=Jv ⟨p,s⟩) (l:=s.Timers) (fun i=>(s.Timers.map GTimer.Proc).take i) (z:=()) (q8 s) (fun i x hi hx=>by
    have hxm : (s.Timers.map GTimer.Proc)[i]? = some x.Proc:=by rw [List.getElem?_map,hx];rfl
    simp only [Jv,Wm,Wn,hi,hx,decide_true,cond_true,Option.bind_some,Tx,Zdx,q8]
    rcases Bool.eq_false_or_eq_true (wn x.Proc s.Procs.length) with e|e
    · by_cases e1 : x.Proc ∈ (s.Timers.map GTimer.Proc).take i
      · simp [e,e1]
      · rcases Bool.eq_false_or_eq_true (bt x.Due 0 1010000) with e2 | e2
        · cases i with
          | zero=>simp [e,e2,Zpe,Zmq,Vv hxm]
          | succ j=>
            have hj : j < s.Timers.length:=by omega
            have hw : IntKind.i64.wrap (((j + 1 : Nat) : Int) - 1)=(j : Int):=by have:=hok.1;rw [Wa ⟨by omega,by omega⟩];omega
            obtain⟨y,hy⟩ : ∃ y,s.Timers[j]? = some y:=⟨_,List.getElem?_eq_getElem hj⟩;have hr : rdI s.Timers (j : Int)=some y:=by simp [rdI,hy]
            have hpos : 0 < j + 1:=by omega
            rcases Bool.eq_false_or_eq_true (decide (x.Due < y.Due) || (decide (y.Due=x.Due) && decide (x.Proc ≤ y.Proc))) with e3|e3
            · simp only [e,e1,e2,e3,hw,hr,hy,hpos,Zpe,decide_true,decide_false,cond_true,cond_false,Option.bind_some,Bool.not_true,Bool.not_false,Bool.and_true,Bool.and_false,Bool.false_eq_true,if_false]
            · simp only [e,e1,e2,e3,hw,hr,hy,hpos,Zpe,decide_true,decide_false,cond_true,cond_false,Option.bind_some,Bool.not_true,Bool.not_false,Bool.and_true,if_true,Zjy e1,Vv hxm]
        · simp [e,e1,e2]
    · simp [e]) (by simp [Jv])
  rw [List.take_zero] at h1;simp only [Wz,h1,Option.bind_some,K8]
  rcases Bool.eq_false_or_eq_true (Zh8 (q8 s) 0 s.Timers) with e|e <;> simp [e]
theorem Zui {k x : Int} {l : List Int} : x ∈ Zmq l k ↔ x ∈ l ∨ x=k:=by
  by_cases h : k ∈ l
  · rw [Zsf h];constructor
    · exact .inl
    · rintro (h' | rfl)
      · exact h'
      · exact h
  · rw [Zjy h];simp
theorem Zoh {x : Int} : ∀ (l z : List Int),x ∈ l.foldl Zmq z ↔ x ∈ z ∨ x ∈ l
  | [],z=>by simp
  | y :: r,z=>by rw [List.foldl_cons,Zoh r,Zui];simp [or_assoc]
theorem Zpl (p : GPlan) (s : GState) : Wc ⟨p,s⟩=some (K9 s):=by
  have h1:=Zkv (L:=Jo ⟨p,s⟩) (l:=s.Timers) (fun i=>((s.Timers.map GTimer.Proc).take i).foldl Zmq []) (z:=(s.Timers.map GTimer.Proc).foldl Zmq []) (q9 s) (fun i x hi hx=>by
    have hxm : (s.Timers.map GTimer.Proc)[i]? = some x.Proc:=by rw [List.getElem?_map,hx];rfl
    simp only [Jo,Vq,hi,hx,decide_true,cond_true,Option.bind_some,Tx,q9,Vv hxm,List.foldl_append,List.foldl_cons,List.foldl_nil]
    rcases Bool.eq_false_or_eq_true (wn x.Proc s.Procs.length) with e|e
    · obtain⟨y,hy⟩:=Zh9 e;have hk : Zrn s x.Proc=y.State:=by unfold Zrn;rw [hy]
      by_cases e2 : y.State=2 <;> simp [e,e2,hy,hk]
    · simp [e]) (by
    have : (s.Timers.map GTimer.Proc).take s.Timers.length=s.Timers.map GTimer.Proc:=List.take_of_length_le (by simp);simp [Jo,this])
  have h2:=Wk (L:=Jn ⟨p,s⟩ ((s.Timers.map GTimer.Proc).foldl Zmq [])) (l:=s.Procs) (z:=()) (q9b s) (fun i x hi hx=>by
    have hm : (((i : Nat) : Int) ∈ (s.Timers.map GTimer.Proc).foldl Zmq []) ↔ ((i : Nat) : Int) ∈ s.Timers.map GTimer.Proc:=by rw [Zoh];simp
    simp only [Jn,Vr,hi,hx,decide_true,cond_true,Option.bind_some,q9b,hm]
    by_cases e1 : x.Wait=1
    · by_cases e2 : ((i : Nat) : Int) ∈ s.Timers.map GTimer.Proc
      · simp only [e1,e2,decide_true,cond_true,cond_false,Bool.not_true,Option.bind_some,Bool.or_true,if_true]
      · simp only [e1,e2,decide_true,decide_false,cond_true,cond_false,Bool.not_true,Bool.not_false,Option.bind_some,Bool.or_false,Bool.false_eq_true,if_false]
    · simp [e1]) (by simp [Jn])
  rw [List.take_zero,List.foldl_nil] at h1;simp only [Wc,h1,Option.bind_some,K9]
  rcases Bool.eq_false_or_eq_true (Zh8 (q9 s) 0 s.Timers) with e|e
  · simp only [e,if_true,h2,Option.bind_some,Bool.true_and]
    rcases Bool.eq_false_or_eq_true (Zh8 (q9b s) 0 s.Procs) with e3|e3 <;> simp [e3]
  · simp [e]
theorem Zs1 {α : Type} (b : α → Bool) : ∀ l : List α,(!(l.any fun x=>!(b x)))=l.all b
  | []=>rfl
  | x :: r=>by rw [List.any_cons,List.all_cons,← Zs1 b r];cases b x <;> simp
def Zky (p : GPlan) (s : GState) : Vector Bool 17:=#v[K1 p s,K2 s,K3 p s,K4 s,K5 s,K6 p s,K7 s,K8 s,K9 s,K10 s,K11 p s,K12 p s,K13 p s,K14 p s,K15 p s,K16 p s,K17 p s]
theorem Zpm (p : GPlan) (s : GState) (hok : Zu9 s) : Wd ⟨p,s⟩=some (Zky p s):=by
  have c10:=Zob s.Sems (fun x0=>Ve x0) (fun n=>!(bt n 0 255)) (fun _=>rfl);have e10:=Zs1 (fun n=>bt n 0 255) s.Sems;simp only [Wd,Wp,Option.bind_some,Zdx,Zcf ⟨p,s⟩ Zne,Zcf ⟨p,s⟩ (f:=fun x0=>Vd x0) (b:=k5) (fun _=>rfl),Zcf ⟨p,s⟩ (Zof p s),Zpk,Zq6 p s hok,Zpl,c10,
    Zia ⟨p,s⟩ hok Zph,Zia ⟨p,s⟩ hok Zpi,Zoe ⟨p,s⟩ hok,Zcf ⟨p,s⟩ (Zpf p s),Zcf ⟨p,s⟩ (Zpg p s),Zcf ⟨p,s⟩ (Zog p s),Zia ⟨p,s⟩ hok Zpj,e10]
  have e2 : (bif bt s.Frame 0 2147483647 then some (bt s.Epoch 0 2147483647) else some false : Option Bool)=some (K2 s):=by
    unfold K2;rcases Bool.eq_false_or_eq_true (bt s.Frame 0 2147483647) with e | e <;> simp [e]
  have ea : ∀ a b : Bool,(bif a then some b else some false : Option Bool)=some (a && b):=fun a b=>by cases a <;> rfl
  simp only [ea,Option.bind_some];rfl
def brk : Nat → List Bool → List Int
  | _,[]=>[]
  | k,b :: r=>(if b=true then [] else [((k + 1 : Nat) : Int)]) ++ brk (k + 1) r
theorem Znf (b : Bool) : ∀ (l : List Bool) (k : Nat),brk k (l ++ [b])=brk k l ++ (if b=true then [] else [((k + l.length + 1 : Nat) : Int)])
  | [],k=>by simp [brk]
  | x :: r,k=>by
    have ih:=Znf b r (k + 1);rw [List.cons_append,brk,ih,brk,List.append_assoc,List.length_cons,show k + 1 + r.length + 1=k + (r.length + 1) + 1 by omega]
theorem Zpn : ∀ (l : List Bool) (k : Nat),(brk k l).length ≤ l.length
  | [],_=>Nat.le_refl _
  | x :: r,k=>by
    have:=Zpn r (k + 1);rw [brk,List.length_append,List.length_cons];split <;> simp <;> omega
def Hn (p : GPlan) (s : GState) : List Int:=if Zex p ≠ .nil then [0] else brk 0 (Zky p s).toList
theorem Zoi (p : GPlan) (s : GState) (hok : Zu9 s) : Hv p s=some (Hn p s):=by
  unfold Hn
  by_cases h : Zex p=.nil
  rotate_left
  · rw [if_pos h];simp only [Hv,Zme,h,decide_false,Bool.not_false,cond_true,Option.bind_some]
  rw [if_neg (by simpa using h)]
  generalize hv : Zky p s=v
  have h17 : v.toList.length=17:=by simp
  have key : ∀ m k,k + m=17 → Kj (Yq v) (brk 0 (v.toList.take k),k)=some (brk 0 v.toList):=by
    intro m
    induction m with
    | zero=>
      intro k hk;obtain rfl : k=17:=by omega
      rw [List.take_of_length_le (by omega)];exact Wl (by simp [Yq])
    | succ m ih=>
      intro k hk;have hlt : k < 17:=by omega
      have hlt' : k < v.toList.length:=by omega
      obtain⟨b,hb⟩ : ∃ b,v.toList[k]? = some b:=⟨_,List.getElem?_eq_getElem hlt'⟩;have hrd : rdV v (k : Int)=some b:=by
        rw [Zsd];simpa using hb
      have hl:=Zpn (v.toList.take k) 0;rw [List.length_take] at hl;have hc : ((brk 0 (v.toList.take k)).length + [((k + 1 : Nat) : Int)].length) * 8 ≤ 140737488355328:=by
        simp only [List.length_cons,List.length_nil];omega
      have hs : Yq v (brk 0 (v.toList.take k),k)=some (.inl (brk 0 (v.toList.take (k + 1)),k + 1)):=by
        rw [Vv hb,Znf,List.length_take,Nat.min_eq_left (by omega),Nat.zero_add];simp only [Yq,Zac,hlt,hrd,decide_true,cond_true,Option.bind_some,chk,hc,if_true]
        rcases Bool.eq_false_or_eq_true b with e|e <;> simp [e]
      rw [Uu hs];exact ih (k + 1) (by omega)
  have h0:=key 17 0 rfl;rw [List.take_zero] at h0;simp only [Hv,Zme,h,decide_true,Bool.not_true,cond_false,Option.bind_some,Zpm p s hok,hv];exact (congrArg (fun o=>Option.bind o fun l=>some l) h0)
def Zlt (p : GPlan) (s : GState) (last : Int) : ErrM:=match Hn p s with
  | []=>.nil
  | x :: _=>if last < x then .nil else if x=0 then .v Zd8 else .pl x Ho
theorem Zq7 (p : GPlan) (s : GState) (hok : Zu9 s) (last : Int) : Zcu p s last=some (Zlt p s last):=by
  simp only [Zcu,Zbo,Zoi p s hok,Option.bind_some,Zlt];cases h : Hn p s with
  | nil=>simp
  | cons x r=>
    by_cases e : last < x
    · simp [e]
    · by_cases e2 : x=0
      · subst e2;simp [e]
      · simp [e,e2]
theorem Zmf (p : GPlan) (s : GState) (hok : Zu9 s) : Zbe p s=some (Zlt p s 17):=by simp only [Zbe,Zq7 p s hok,Option.bind_some]
theorem cState : (ErrM.v Ho).code=9:=by decide
theorem Zs2 : ∀ (l : List Bool) (k : Nat) (x : Int),x ∈ brk k l → (k : Int) + 1 ≤ x ∧ x ≤ k + l.length
  | [],k,x,h=>by cases h
  | b :: r,k,x,h=>by
    rw [brk,List.mem_append] at h
    rcases h with h|h
    · split at h
      · cases h
      · rw [List.mem_singleton] at h;subst h;simp;omega
    · have:=Zs2 r (k + 1) x h;simp only [List.length_cons];omega
section
variable {σ ρ α : Type}
theorem Zfv {L : σ → Option (σ ⊕ ρ)} (I : σ → Prop) (Q : ρ → Prop) (μ : σ → Nat)
    (h : ∀ s,I s → (∃ s',L s=some (.inl s') ∧ I s' ∧ μ s' < μ s) ∨ (∃ r,L s=some (.inr r) ∧ Q r)) {s : σ} (h0 : I s) : ∃ r,Kj L s=some r ∧ Q r:=by
  have key : ∀ n s,μ s < n → I s → ∃ r,Kj L s=some r ∧ Q r:=by
    intro n
    induction n with
    | zero=>intro s hs;omega
    | succ n ih=>
      intro s hs hI
      rcases h s hI with ⟨s',h1,h2,h3⟩ | ⟨r,h1,h2⟩
      · obtain⟨r,h4,h5⟩:=ih s' (by omega) h2;exact⟨r,(Uu h1).trans h4,h5⟩
      · exact⟨r,Wl h1,h2⟩
  exact key _ s (Nat.lt_succ_self _) h0
theorem Zix {f : Nat → α → Option ErrM} (hf : ∀ i x,f i x ≠ some .nil) : ∀ {l : List α} {k : Nat},orN (Jc f k l)=.nil → ∀ i x,l[i]? = some x → f (k + i) x=none
  | [],_,_,i,x,hx=>by simp at hx
  | y :: r,k,h,i,x,hx=>by
    cases hy : f k y with
    | some e=>
      simp only [Jc,hy,orN,Option.getD_some] at h;subst h;exact absurd hy (hf k y)
    | none=>
      simp only [Jc,hy] at h;cases i with
      | zero=>
        have : y=x:=by simpa using hx
        subst this;exact hy
      | succ j=>
        have:=Zix hf h j x (by simpa using hx)
        rwa [show k + 1 + j=k + (j + 1) by omega] at this
end
theorem Zj1 {a b : ErrM} (h : orE a b=.nil) : a=.nil ∧ b=.nil:=by
  unfold orE at h
  by_cases c : a=.nil
  · rw [if_pos c] at h;exact⟨c,h⟩
  · rw [if_neg c] at h;exact absurd h c
structure OkP (p : GPlan) : Prop where
  id0 : 0 ≤ p.Id
  id1 : p.Id ≤ 2147483647
  pg0 : 1 ≤ p.Pages.length
  pg1 : p.Pages.length ≤ 32
  pr0 : 1 ≤ p.Procs.length
  pr1 : p.Procs.length ≤ 8
  po1 : p.Ports.length ≤ 8
  ev0 : 0 ≤ p.Events
  ev1 : p.Events ≤ 8
  se1 : p.Sems.length ≤ 8
  prio : ∀ x ∈ p.Procs,0 ≤ x.Prio ∧ x.Prio ≤ 255
  dep : ∀ x ∈ p.Ports,1 ≤ x.Depth
  sem : ∀ n ∈ p.Sems,0 ≤ n ∧ n ≤ 255
theorem okP_of {p : GPlan} (h : Zex p=.nil) : OkP p:=by
  unfold Zex at h
  by_cases c0 : p.Id < 0 ∨ 2147483647 < p.Id
  · rw [if_pos c0] at h;cases h
  rw [if_neg c0] at h;obtain⟨h1,h2⟩:=Zj1 h;obtain⟨h2,h3⟩:=Zj1 h2;unfold Zq2 at h3;obtain⟨h3,h4⟩:=Zj1 h3;obtain⟨h4,_⟩:=Zj1 h4;unfold Zft at h1
  by_cases c1 : p.Pages.length < 1 ∨ 32 < p.Pages.length
  · rw [if_pos c1] at h1;cases h1
  unfold Zfu at h2
  by_cases c2 : p.Procs.length < 1 ∨ 8 < p.Procs.length
  · rw [if_pos c2] at h2;cases h2
  rw [if_neg c2] at h2;unfold Zgh at h3
  by_cases c3 : 8 < p.Ports.length
  · rw [if_pos c3] at h3;cases h3
  rw [if_neg c3] at h3;unfold Zdj at h4
  by_cases c4 : p.Events < 0 ∨ 8 < p.Events
  · rw [if_pos c4] at h4;cases h4
  rw [if_neg c4] at h4
  by_cases c5 : 8 < p.Sems.length
  · rw [if_pos c5] at h4;cases h4
  rw [if_neg c5] at h4;refine⟨by omega,by omega,by omega,by omega,by omega,by omega,by omega,by omega,by omega,by omega,fun x hx=>?_,fun x hx=>?_,fun x hx=>?_⟩
  · obtain⟨i,hi⟩:=List.mem_iff_getElem?.1 hx;have:=Zix (f:=Ziu p.Pages.length) (fun i x=>by unfold Ziu;split <;> intro h <;> cases h) h2 i x hi;unfold Ziu at this;split at this
    · cases this
    · omega
  · obtain⟨i,hi⟩:=List.mem_iff_getElem?.1 hx;have:=Zix (f:=Zca) (fun i x=>by unfold Zca;split <;> intro h <;> cases h) h3 i x hi;unfold Zca at this
    rcases Zew x with e | ⟨g,e⟩
    · unfold Zis at e
      by_cases d0 : x.Kind < 1 ∨ 4 < x.Kind
      · rw [if_pos d0] at e;cases e
      rw [if_neg d0] at e
      by_cases d1 : x.Size < 1 ∨ 32 < x.Size
      · rw [if_pos d1] at e;cases e
      rw [if_neg d1] at e
      by_cases d2 : x.Depth < 1
      · rw [if_pos (.inl d2)] at e;cases e
      · omega
    · rw [e] at this;cases this
  · obtain⟨i,hi⟩:=List.mem_iff_getElem?.1 hx;have:=Zix (f:=Znl) (fun i x=>by unfold Znl;split <;> intro h <;> cases h) h4 i x hi;unfold Znl at this;split at this
    · cases this
    · omega
def Zpo (x : GProcPlan) : GProc:=⟨Vector.replicate 16 0,IntKind.u32.wrap x.Entry,if x.Auto=true then 1 else 0,x.Prio,0,0⟩
def Zdk : Nat → List GProcPlan → List Int
  | _,[]=>[]
  | k,x :: r=>(if x.Auto=true then [((k : Nat) : Int)] else []) ++ Zdk (k + 1) r
theorem Zoj (x : GProcPlan) : ∀ (l : List GProcPlan) (k : Nat),Zdk k (l ++ [x])=Zdk k l ++ (if x.Auto=true then [((k + l.length : Nat) : Int)] else [])
  | [],k=>by simp [Zdk]
  | y :: r,k=>by
    have ih:=Zoj x r (k + 1);rw [List.cons_append,Zdk,ih,Zdk,List.append_assoc,List.length_cons,show k + 1 + r.length=k + (r.length + 1) by omega]
theorem Zqe : ∀ (l : List GProcPlan) (k : Nat),(Zdk k l).length ≤ l.length
  | [],_=>Nat.le_refl _
  | y :: r,k=>by
    have:=Zqe r (k + 1);rw [Zdk,List.length_append,List.length_cons];split <;> simp <;> omega
def Zhd (x : GPagePlan) : GPage:=⟨x.Rights,false,cpyV (Vector.replicate 64 0) x.Init⟩
def Zhe (p : GPlan) : GState:=⟨p.Id,0,0,p.Procs.map Zpo,Zdk 0 p.Procs,[],List.replicate p.Events.toNat false,p.Sems,List.replicate p.Ports.length ⟨[],0⟩,p.Pages.map Zhd⟩
structure OkC (s : GState) : Prop where
  a : s.Procs.length ≤ 40
  b : s.Ready.length ≤ 40
  c : s.Timers.length ≤ 40
  d : s.Up.length ≤ 40
  e : s.Sems.length ≤ 40
  f : s.Pages.length ≤ 40
  g : s.Ports.length ≤ 40
  h : ∀ x ∈ s.Ports,x.Msgs.length ≤ 40
def fresh (x : GProc) : Prop:=x.Regs[0]=0 ∧ (x.State=0 ∨ x.State=1) ∧ 0 ≤ x.Prio ∧ x.Prio ≤ 255 ∧ x.Wait=0 ∧ x.Obj=0
structure Booted (p : GPlan) (s : GState) : Prop where
  fr : s.Frame=0
  ep : s.Epoch=0
  pr : ∀ x ∈ s.Procs,fresh x
  q1 : ∀ i n,s.Ready[i]? = some n → q7 s i n=true
  q2 : ∀ i x,s.Procs[i]? = some x → x.State=1 → ((i : Nat) : Int) ∈ s.Ready
  ti : s.Timers=[]
  se : s.Sems=p.Sems
  po : ∀ x ∈ s.Ports,x=⟨[],0⟩
def Zqf (s : GState) : Prop:=Zu9 s ∧ s.Procs.length ≤ 140737488355328 ∧ s.Ready.length ≤ 140737488355328
theorem Zs3 (s : GState) : Zei s=some (K4 s):=by
  have h:=Wk (L:=Te s) (l:=s.Procs) (z:=()) (fun _ x=>k4 x) (fun i x hi hx=>by
    have h0 : rdV x.Regs 0=some x.Regs[0]:=by simp [rdV]
    have hb : (((((((!decide (x.Regs[0]=0)) || decide (x.State < 0)) || decide (3 < x.State)) || decide (x.Prio < 0)) || decide (255 < x.Prio)) || decide (x.Wait < 0)) || decide (4 < x.Wait)) = !(k4 x):=by
      unfold k4 bt
      generalize x.Regs[0]=r
      by_cases e0 : r=0 <;> by_cases e1 : 0 ≤ x.State <;> by_cases e2 : x.State ≤ 3 <;> by_cases e3 : 0 ≤ x.Prio <;> by_cases e4 : x.Prio ≤ 255 <;> by_cases e5 : 0 ≤ x.Wait <;> by_cases e6 : x.Wait ≤ 4 <;> simp [e0,e1,e2,e3,e4,e5,e6,Int.not_le.1,Int.not_lt.2] <;> omega
    simp only [Te,hi,hx,decide_true,cond_true,Option.bind_some,h0,hb]
    rcases Bool.eq_false_or_eq_true (k4 x) with e|e <;> simp [e]) (by simp [Te])
  rw [Wr] at h;simp only [Zei,h,K4]
  rcases Bool.eq_false_or_eq_true (s.Procs.all k4) with e|e <;> simp [e]
theorem Zs4 (s : GState) : Zej s=some (K5 s):=by
  have h:=Wk (L:=Tf s) (l:=s.Procs) (z:=()) (fun _ x=>k5 x) (fun i x hi hx=>by
    have hb : (!((!decide (x.Wait=0)) == decide (x.State=2))) = !(k5 x):=rfl;simp only [Tf,hi,hx,decide_true,cond_true,Option.bind_some,hb]
    rcases Bool.eq_false_or_eq_true (k5 x) with e|e <;> simp [e]) (by simp [Tf])
  rw [Wr] at h;simp only [Zej,h,K5]
  rcases Bool.eq_false_or_eq_true (s.Procs.all k5) with e|e <;> simp [e]
theorem Zq8 (p : GPlan) (x : GProc) : Zcx p x=some (k6 p x):=by
  simp only [Zcx,Zdu,k6]
  by_cases e2 : x.Wait=2
  · simp [e2,wn]
  · by_cases e3 : x.Wait=3
    · simp [e3,wn]
    · by_cases e4 : x.Wait=4
      · by_cases e5 : 0 ≤ x.Obj
        · by_cases e6 : x.Obj < (p.Ports.length : Int)
          · obtain⟨y,hy⟩:=Zh9 (l:=p.Ports) (n:=x.Obj) (by simp [wn,e5,e6]);have hk : pkAt p x.Obj=y.Kind:=by unfold pkAt;rw [hy]
            by_cases e7 : y.Kind=3 <;> simp [e4,e5,e6,wn,hy,hk,e7]
          · simp [e4,e5,e6,wn]
        · simp [e4,e5,wn]
      · simp [e2,e3,e4]
theorem Zs5 (p : GPlan) (s : GState) : Zek p s=some (K6 p s):=by
  have h:=Wk (L:=Tg p s) (l:=s.Procs) (z:=()) (fun _ x=>k6 p x) (fun i x hi hx=>by
    simp only [Tg,hi,hx,decide_true,cond_true,Option.bind_some,Zq8]
    rcases Bool.eq_false_or_eq_true (k6 p x) with e|e <;> simp [e]) (by simp [Tg])
  rw [Wr] at h;simp only [Zek,h,K6]
  rcases Bool.eq_false_or_eq_true (s.Procs.all (k6 p)) with e|e <;> simp [e]
def Za5 : Nat → List GProc → List Int
  | _,[]=>[]
  | k,x :: r=>(if x.State=1 then [((k : Nat) : Int)] else []) ++ Za5 (k + 1) r
theorem Zdc : ∀ {l : List GProc} {k : Nat} {n : Int},n ∈ Za5 k l ↔ ∃ i x,l[i]? = some x ∧ x.State=1 ∧ n=((k + i : Nat) : Int)
  | [],k,n=>by simp [Za5]
  | y :: r,k,n=>by
    rw [Za5,List.mem_append,Zdc];constructor
    · rintro (h | ⟨i,x,h1,h2,h3⟩)
      · by_cases e : y.State=1
        · rw [if_pos e,List.mem_singleton] at h;exact⟨0,y,rfl,e,by simpa using h⟩
        · rw [if_neg e] at h;cases h
      · exact⟨i + 1,x,by simpa using h1,h2,by rw [h3];congr 1;omega⟩
    · rintro ⟨i,x,h1,h2,h3⟩
      cases i with
      | zero=>
        have : y=x:=by simpa using h1
        subst this;rw [if_pos h2];exact .inl (by simpa using h3)
      | succ j=>exact .inr ⟨j,x,by simpa using h1,h2,by rw [h3];congr 1;omega⟩
theorem Zhu : ∀ (l : List GProc) (k : Nat),(Za5 k l).Nodup
  | [],k=>List.nodup_nil
  | y :: r,k=>by
    have ih:=Zhu r (k + 1);rw [Za5];split
    · rw [List.singleton_append,List.nodup_cons];refine⟨fun h=>?_,ih⟩;obtain⟨i,x,_,_,h3⟩:=Zdc.1 h;omega
    · exact ih
theorem Zgb : ∀ {l1 l2 : List Int},l1.Nodup → (∀ x ∈ l1,x ∈ l2) → l1.length ≤ l2.length
  | [],_,_,_=>Nat.zero_le _
  | a :: t,l2,hn,hs=>by
    obtain⟨h1,h2⟩:=List.nodup_cons.1 hn;have ha:=hs a List.mem_cons_self;have:=Zgb (l1:=t) (l2:=l2.erase a) h2 fun x hx=>(List.mem_erase_of_ne (fun e=>h1 (by rw [← e];exact hx))).2 (hs x (List.mem_cons_of_mem _ hx))
    rw [List.length_erase_of_mem ha] at this;have:=List.length_pos_of_mem ha;simp only [List.length_cons];omega
theorem Zjk : ∀ {l1 l2 : List Int},l1.Nodup → (∀ x ∈ l1,x ∈ l2) → l2.length ≤ l1.length → ∀ x ∈ l2,x ∈ l1
  | [],l2,_,_,hl,x,hx=>by
    have : l2=[]:=List.length_eq_zero_iff.1 (by simpa using hl);subst this;cases hx
  | a :: t,l2,hn,hs,hl,x,hx=>by
    obtain⟨h1,h2⟩:=List.nodup_cons.1 hn;have ha:=hs a List.mem_cons_self
    by_cases e : x=a
    · rw [e];exact List.mem_cons_self
    · have hl' : (l2.erase a).length ≤ t.length:=by
        rw [List.length_erase_of_mem ha];simp only [List.length_cons] at hl;omega
      have:=Zjk (l1:=t) (l2:=l2.erase a) h2 (fun y hy=>(List.mem_erase_of_ne (fun e=>h1 (by rw [← e];exact hy))).2 (hs y (List.mem_cons_of_mem _ hy))) hl' x ((List.mem_erase_of_ne e).2 hx);exact List.mem_cons_of_mem _ this
theorem Zq9 {l : List Int} (h : ∀ i x,l[i]? = some x → x ∉ l.take i) : l.Nodup:=by
  rw [List.nodup_iff_pairwise_ne,List.pairwise_iff_getElem];intro i j hi hj hij e;have:=h j l[j] (List.getElem?_eq_getElem hj);apply this;rw [← e,List.mem_take_iff_getElem];exact⟨i,by omega,rfl⟩
theorem Zuj (s : GState) (hok : Zqf s) (i : Nat) (x : Int) (hi : i < s.Ready.length) : Kj (Wf s i x) 0=some (if decide (x ∈ s.Ready.take i)=true then .inr false else .inl ()):=by
  have hlt : (s.Ready.take i).length=i:=by rw [List.length_take];omega
  have h:=Zdb (L:=Wf s i x) (l:=s.Ready.take i) (z:=()) (fun _ y=>!decide (y=x)) (fun j y hj hy=>by
    have hjl : j < i:=by omega
    rw [List.getElem?_take_of_lt hjl] at hy;have hr : rdI s.Ready (j : Int)=some y:=by simp [rdI,hy]
    have hw : IntKind.i64.wrap ((j : Int) + 1)=((j + 1 : Nat) : Int):=by have:=hok.2.2;rw [Wa ⟨by omega,by omega⟩];rfl
    have hc : (j : Int) < (i : Int):=by omega
    simp only [Wf,hc,hr,hw,decide_true,cond_true,Option.bind_some]
    by_cases e : y=x <;> simp [e]) (by rw [hlt];simp [Wf])
  rw [h,Wr]
  by_cases e : x ∈ s.Ready.take i
  · have : ((s.Ready.take i).all fun y=>!decide (y=x))=false:=by
      rw [List.all_eq_false];exact⟨x,e,by simp⟩
    rw [this];simp [e]
  · have : ((s.Ready.take i).all fun y=>!decide (y=x))=true:=by
      rw [List.all_eq_true];intro y hy;simp;rintro rfl;exact e hy
    rw [this];simp [e]
theorem Zra (s : GState) (hok : Zqf s) : Kj (Wg s) (0,0)=some (((Za5 0 s.Procs).length : Nat) : Int):=by
  have h:=Ziq (L:=Wg s) (l:=s.Procs) (g:=fun z x=>if x.State=1 then z + 1 else z) (I:=fun z i=>0 ≤ z ∧ z ≤ i) (z:=(0 : Int)) ⟨Int.le_refl _,Int.le_refl _⟩ (fun i x z hi hx hI=>⟨by
    have hw : IntKind.i64.wrap (z + 1)=z + 1:=by have:=hok.2.1;have:=hI.1;have:=hI.2;exact Wa ⟨by omega,by omega⟩
    simp only [Wg,Zbv,hi,hx,decide_true,cond_true,Option.bind_some,hw]
    by_cases e : x.State=1 <;> simp [e],by
    have:=hI.1;have:=hI.2
    by_cases e : x.State=1
    · simp only [e,if_true];omega
    · simp only [e,if_false];omega⟩) (fun z _=>by simp [Wg])
  rw [h.1]
  congr 1
  have key : ∀ (l : List GProc) (k : Nat) (z : Int),l.foldl (fun z x=>if x.State=1 then z + 1 else z) z=z + ((Za5 k l).length : Nat):=by
    intro l
    induction l with
    | nil=>intro k z;simp [Za5]
    | cons x r ih=>
      intro k z;rw [List.foldl_cons,ih (k + 1),Za5,List.length_append]
      by_cases e : x.State=1 <;> simp [e] <;> omega
  rw [key s.Procs 0 0];omega
theorem Zs6 (s : GState) (hok : Zqf s) : Zel s=some (K7 s):=by
  have h1:=Wk (L:=Gk s) (l:=s.Ready) (z:=()) (q7 s) (fun i x hi hx=>by
    have hd:=Zuj s hok i x hi;simp only [Gk,Zbu,hi,hx,decide_true,cond_true,Option.bind_some,hd,q7]
    rcases Bool.eq_false_or_eq_true (wn x s.Procs.length) with e|e
    · obtain⟨y,hy⟩:=Zh9 e;have hk : Zrn s x=y.State:=by unfold Zrn;rw [hy]
      have e':=e;simp only [wn,Bool.and_eq_true,decide_eq_true_eq] at e';have n1 : ¬ x < 0:=by omega
      have n2 : ¬ ((s.Procs.length : Nat) : Int) ≤ x:=by omega
      by_cases e1 : x ∈ s.Ready.take i
      · by_cases e2 : y.State=1 <;> simp [e,e1,n1,n2,hy,hk,e2]
      · by_cases e2 : y.State=1 <;> simp [e,e1,n1,n2,hy,hk,e2]
    · by_cases n1 : x < 0
      · simp [n1,e]
      · by_cases n2 : ((s.Procs.length : Nat) : Int) ≤ x
        · simp [n1,n2,e]
        · exfalso;have : wn x s.Procs.length=true:=by simp only [wn,Bool.and_eq_true,decide_eq_true_eq];omega
          rw [this] at e;cases e) (by simp [Gk])
  simp only [Zel,h1,Zra s hok,Option.bind_some,K7]
  rcases Bool.eq_false_or_eq_true (Zh8 (q7 s) 0 s.Ready) with e|e
  rotate_left
  · simp [e]
  rw [e,if_pos rfl];simp only [Option.bind_some,Bool.true_and]
  congr 1
  have hq:=Zj0.1 e;have hnd : s.Ready.Nodup:=Zq9 fun i x hx=>by
    have:=hq i x hx;rw [Nat.zero_add] at this;simp only [q7,Bool.and_eq_true,Bool.not_eq_true',decide_eq_false_iff_not] at this;exact this.1.2
  have hsub : ∀ n ∈ s.Ready,n ∈ Za5 0 s.Procs:=fun n hn=>by
    obtain⟨i,hi⟩:=List.mem_iff_getElem?.1 hn;have:=hq i n hi;rw [Nat.zero_add] at this;simp only [q7,Bool.and_eq_true,decide_eq_true_eq] at this;obtain⟨y,hy⟩:=Zh9 this.1.1;have h0 : 0 ≤ n:=by
      have:=this.1.1;simp only [wn,Bool.and_eq_true,decide_eq_true_eq] at this;exact this.1
    have hk : Zrn s n=y.State:=by unfold Zrn;rw [hy]
    refine Zdc.2 ⟨n.toNat,y,?_,by rw [← hk];exact this.2,by omega⟩;unfold rdI at hy;rwa [if_pos h0] at hy
  have hle:=Zgb hnd hsub
  rcases Bool.eq_false_or_eq_true (Zh8 (q7b s) 0 s.Procs) with e2|e2
  · rw [e2];have hq2:=Zj0.1 e2;have : ∀ n ∈ Za5 0 s.Procs,n ∈ s.Ready:=fun n hn=>by
      obtain⟨i,x,g1,g2,g3⟩:=Zdc.1 hn;have:=hq2 i x g1;simp only [q7b,Bool.or_eq_true,Bool.not_eq_true',decide_eq_false_iff_not,decide_eq_true_eq] at this
      rcases this with h|h
      · exact absurd g2 h
      · rw [g3];exact h
    have:=Zgb (Zhu s.Procs 0) this;exact decide_eq_true (by omega)
  · rw [e2];refine decide_eq_false fun hc=>?_
    have hall:=Zjk hnd hsub (by omega);have : Zh8 (q7b s) 0 s.Procs=true:=Zj0.2 fun i x hx=>by
      simp only [q7b,Bool.or_eq_true,Bool.not_eq_true',decide_eq_false_iff_not,decide_eq_true_eq]
      by_cases g : x.State=1
      · exact .inr (hall _ (Zdc.2 ⟨i,x,hx,g,rfl⟩))
      · exact .inl g
    rw [this] at e2;cases e2
theorem Zs7 (s : GState) (hok : Zqf s) (i : Nat) (t : GTimer) (hi : i < s.Timers.length) : Kj (Um s i t) 0=some (if decide (t.Proc ∈ (s.Timers.map GTimer.Proc).take i)=true then .inr false else .inl ()):=by
  have hlt : (s.Timers.take i).length=i:=by rw [List.length_take];omega
  have h:=Zdb (L:=Um s i t) (l:=s.Timers.take i) (z:=()) (fun _ y=>!decide (y.Proc=t.Proc)) (fun j y hj hy=>by
    have hjl : j < i:=by omega
    rw [List.getElem?_take_of_lt hjl] at hy;have hr : rdI s.Timers (j : Int)=some y:=by simp [rdI,hy]
    have hw : IntKind.i64.wrap ((j : Int) + 1)=((j + 1 : Nat) : Int):=by have:=hok.1.1;rw [Wa ⟨by omega,by omega⟩];rfl
    have hc : (j : Int) < (i : Int):=by omega
    simp only [Um,hc,hr,hw,decide_true,cond_true,Option.bind_some]
    by_cases e : y.Proc=t.Proc <;> simp [e]) (by rw [hlt];simp [Um])
  rw [h,Wr,← List.map_take]
  by_cases e : t.Proc ∈ (s.Timers.take i).map GTimer.Proc
  · have : ((s.Timers.take i).all fun y=>!decide (y.Proc=t.Proc))=false:=by
      obtain⟨y,hy,hyt⟩:=List.mem_map.1 e;rw [List.all_eq_false];exact⟨y,hy,by simp [hyt]⟩
    rw [this];simp only [e,decide_true,if_true];rfl
  · have : ((s.Timers.take i).all fun y=>!decide (y.Proc=t.Proc))=true:=by
      rw [List.all_eq_true];intro y hy;simp;intro h;exact e (List.mem_map.2 ⟨y,hy,h⟩)
    rw [this];simp only [e,decide_false,if_true];rfl
theorem Zs8 (s : GState) (hok : Zqf s) : Zem s=some (K8 s):=by
  have h1:=Wk (L:=Gl s) (l:=s.Timers) (z:=()) (q8 s) (fun i x hi hx=>by
    have hd:=Zs7 s hok i x hi;have hb : (((decide (x.Proc < 0) || decide (((s.Procs.length : Nat) : Int) ≤ x.Proc)) || decide (x.Due < 0)) || decide (1010000 < x.Due)) = !(wn x.Proc s.Procs.length && bt x.Due 0 1010000):=by
      unfold wn bt
      by_cases e1 : 0 ≤ x.Proc <;> by_cases e2 : x.Proc < ((s.Procs.length : Nat) : Int) <;> by_cases e3 : 0 ≤ x.Due <;> by_cases e4 : x.Due ≤ 1010000 <;> simp [e1,e2,e3,e4] <;> omega
    simp only [Gl,Zbw,hi,hx,decide_true,cond_true,Option.bind_some,hb,hd,q8]
    rcases Bool.eq_false_or_eq_true (wn x.Proc s.Procs.length) with e|e
    · rcases Bool.eq_false_or_eq_true (bt x.Due 0 1010000) with e2 | e2
      · by_cases e1 : x.Proc ∈ (s.Timers.map GTimer.Proc).take i
        · simp [e,e1,e2]
        · cases i with
          | zero=>simp [e,e2,Zpe]
          | succ j=>
            have hj : j < s.Timers.length:=by omega
            have hw : IntKind.i64.wrap (((j + 1 : Nat) : Int) - 1)=(j : Int):=by have:=hok.1.1;rw [Wa ⟨by omega,by omega⟩];omega
            obtain⟨y,hy⟩ : ∃ y,s.Timers[j]? = some y:=⟨_,List.getElem?_eq_getElem hj⟩;have hr : rdI s.Timers (j : Int)=some y:=by simp [rdI,hy]
            have hpos : 0 < j + 1:=by omega
            rcases Bool.eq_false_or_eq_true (decide (x.Due < y.Due) || (decide (y.Due=x.Due) && decide (x.Proc ≤ y.Proc))) with e3|e3
            · simp only [e,e1,e2,e3,hw,hr,hy,hpos,Zpe,decide_true,decide_false,cond_true,cond_false,Option.bind_some,Bool.not_true,Bool.not_false,Bool.and_true,Bool.and_false,Bool.false_eq_true,if_false]
            · simp only [e,e1,e2,e3,hw,hr,hy,hpos,Zpe,decide_true,decide_false,cond_true,cond_false,Option.bind_some,Bool.not_true,Bool.not_false,Bool.and_true,Bool.false_eq_true,if_true,if_false]
      · simp [e,e2]
    · simp [e]) (by simp [Gl])
  simp only [Zem,h1,Option.bind_some,K8]
  rcases Bool.eq_false_or_eq_true (Zh8 (q8 s) 0 s.Timers) with e|e <;> simp [e]
theorem Zuk (s : GState) (i : Nat) : Kj (Wh s i) (false,0)=some (decide (((i : Nat) : Int) ∈ s.Timers.map GTimer.Proc)):=by
  have h:=Ziq (L:=Wh s i) (l:=s.Timers) (g:=fun (z : Bool) x=>if x.Proc=((i : Nat) : Int) then true else z) (I:=fun _ _=>True) (z:=false) trivial (fun j x z hj hx _=>⟨by
    simp only [Wh,Zbx,hj,hx,decide_true,cond_true,Option.bind_some]
    by_cases e : x.Proc=((i : Nat) : Int) <;> simp [e],trivial⟩) (fun z _=>by simp [Wh])
  rw [h.1]
  congr 1
  have key : ∀ (l : List GTimer) (z : Bool),l.foldl (fun (z : Bool) x=>if x.Proc=((i : Nat) : Int) then true else z) z=(z || decide (((i : Nat) : Int) ∈ l.map GTimer.Proc)):=by
    intro l
    induction l with
    | nil=>intro z;simp
    | cons x r ih=>
      intro z;rw [List.foldl_cons,ih]
      by_cases e : x.Proc=((i : Nat) : Int)
      · simp [e]
      · have e' : ¬ ((i : Nat) : Int)=x.Proc:=fun h=>e h.symm
        simp [e,e']
  rw [key];simp
theorem Zs9 (s : GState) : Zen s=some (K9 s):=by
  have h1:=Wk (L:=Gn s) (l:=s.Timers) (z:=()) (q9 s) (fun i x hi hx=>by
    simp only [Gn,Zcl,hi,hx,decide_true,cond_true,Option.bind_some,q9]
    by_cases e1 : 0 ≤ x.Proc
    · by_cases e2 : x.Proc < ((s.Procs.length : Nat) : Int)
      · have e : wn x.Proc s.Procs.length=true:=by simp [wn,e1,e2]
        obtain⟨y,hy⟩:=Zh9 e;have hk : Zrn s x.Proc=y.State:=by unfold Zrn;rw [hy]
        by_cases e3 : y.State=2 <;> simp [e,e1,e2,hy,hk,e3]
      · have e : wn x.Proc s.Procs.length=false:=by simp [wn,e2]
        simp [e,e1,e2]
    · have e : wn x.Proc s.Procs.length=false:=by simp [wn,e1]
      simp [e,e1]) (by simp [Gn])
  have h2:=Wk (L:=Gm s) (l:=s.Procs) (z:=()) (q9b s) (fun i x hi hx=>by
    simp only [Gm,Zby,hi,hx,decide_true,cond_true,Option.bind_some,Zuk,q9b]
    by_cases e1 : x.Wait=1
    · by_cases e2 : ((i : Nat) : Int) ∈ s.Timers.map GTimer.Proc
      · simp only [e1,e2,decide_true,cond_true,cond_false,Bool.not_true,Option.bind_some,Bool.or_true,if_true]
      · simp only [e1,e2,decide_true,decide_false,cond_true,cond_false,Bool.not_true,Bool.not_false,Option.bind_some,Bool.or_false,Bool.false_eq_true,if_false]
    · simp [e1]) (by simp [Gm])
  simp only [Zen,h1,Option.bind_some,K9]
  rcases Bool.eq_false_or_eq_true (Zh8 (q9 s) 0 s.Timers) with e|e
  · simp only [e,if_true,h2,Option.bind_some,Bool.true_and]
    rcases Bool.eq_false_or_eq_true (Zh8 (q9b s) 0 s.Procs) with e3|e3 <;> simp [e3]
  · simp [e]
theorem Zb6 (a b : Int) : Gp a b=some (if a < b then a else b):=by
  unfold Gp;by_cases h : a < b <;> simp [h]
theorem Ze7 {α β : Type} (l : List α) (r : List β) : (if (r.length : Int) < (l.length : Int) then (r.length : Int) else (l.length : Int))=((l.zip r).length : Int):=by
  rw [List.length_zip];split <;> omega
section
variable {p : GPlan} {s : GState} {i : Nat} {x : GPortPlan × GPort}
theorem Zta (hok : Zqf s) (hi : i < (p.Ports.zip s.Ports).length) (hx : (p.Ports.zip s.Ports)[i]? = some x) :
    rdI p.Ports (i : Int)=some x.1 ∧ rdI s.Ports (i : Int)=some x.2 ∧ IntKind.i64.wrap ((i : Int) + 1)=((i + 1 : Nat) : Int) ∧ (i : Int) < ((p.Ports.zip s.Ports).length : Int):=by
  obtain⟨h1,h2⟩:=List.getElem?_zip_eq_some.1 hx;have hl : i < s.Ports.length:=(List.getElem?_eq_some_iff.1 h2).1;refine⟨by simp [rdI,h1],by simp [rdI,h2],?_,by omega⟩;have:=hok.1.2.1;rw [Wa ⟨by omega,by omega⟩];rfl
end
theorem Zrb (p : GPlan) (s : GState) (hok : Zqf s) : Zcy p s=some (K11 p s):=by
  have h:=Zdb (L:=Gr p s) (l:=p.Ports.zip s.Ports) (z:=()) (fun _ x=>k11 x) (fun i x hi hx=>by
    obtain⟨g1,g2,g3,g4⟩:=Zta hok hi hx;have hin:=Wk (L:=Gq p s (i : Int)) (l:=x.2.Msgs) (z:=()) (fun _ m=>!decide (x.1.Size < (m.size : Int))) (fun j m hj hm=>by
      simp only [Gq,g1,g2,hj,hm,decide_true,cond_true,Option.bind_some]
      by_cases e : x.1.Size < (m.size : Int) <;> simp [e]) (by simp [Gq,g2])
    rw [Wr] at hin;simp only [Gr,Zb6,Ze7,g1,g2,g3,g4,hin,decide_true,cond_true,Option.bind_some,k11];have ha : (x.2.Msgs.all fun m=>!decide (x.1.Size < (m.size : Int))) = !(x.2.Msgs.any fun m=>decide (x.1.Size < (m.size : Int))):=by
      rw [List.not_any_eq_all_not]
    rw [ha]
    by_cases e : x.1.Depth < (x.2.Msgs.length : Int)
    · have e' : ¬ (x.2.Msgs.length : Int) ≤ x.1.Depth:=by omega
      simp [e,e']
    · have e' : (x.2.Msgs.length : Int) ≤ x.1.Depth:=by omega
      rcases Bool.eq_false_or_eq_true (x.2.Msgs.any fun m=>decide (x.1.Size < (m.size : Int))) with b|b <;> simp only [b,e,e',decide_true,decide_false,cond_false,Bool.not_true,Bool.not_false,Bool.and_true,Bool.and_false,Bool.false_eq_true,if_true,if_false]) (by simp only [Gr,Zb6,Ze7,Option.bind_some,Int.lt_irrefl,decide_false,cond_false])
  rw [Wr] at h;simp only [Zcy,h,K11]
  generalize (List.all _ _ : Bool)=b
  cases b <;> simp
theorem Zrc (p : GPlan) (s : GState) (hok : Zqf s) : Zcz p s=some (K12 p s):=by
  have h:=Zdb (L:=Gs p s) (l:=p.Ports.zip s.Ports) (z:=()) (fun _ x=>k12 x) (fun i x hi hx=>by
    obtain⟨g1,g2,g3,g4⟩:=Zta hok hi hx;simp only [Gs,Zbz,Zb6,Ze7,g1,g2,g3,g4,decide_true,cond_true,Option.bind_some,k12]
    by_cases e1 : x.2.Age < 0
    · have e : bt x.2.Age 0 255=false:=by unfold bt;simp;omega
      simp [e,e1]
    · by_cases e2 : 255 < x.2.Age
      · have e : bt x.2.Age 0 255=false:=by unfold bt;simp;omega
        simp [e,e1,e2]
      · have e : bt x.2.Age 0 255=true:=by unfold bt;simp;omega
        by_cases e3 : x.2.Age=0
        · have e' : bt 0 0 255=true:=rfl;simp [e',e3]
        · by_cases e4 : x.1.Kind=1
          · by_cases e5 : x.2.Msgs.length=0
            · simp only [e,e1,e2,e3,e4,e5,decide_true,decide_false,cond_true,cond_false,Option.bind_some,Bool.not_true,Bool.not_false,Bool.true_and,Bool.and_true,Bool.false_or,Nat.lt_irrefl,Bool.false_eq_true,if_false]
            · have e6 : 0 < x.2.Msgs.length:=by omega
              simp only [e,e1,e2,e3,e4,e5,e6,decide_true,decide_false,cond_true,cond_false,Option.bind_some,Bool.not_true,Bool.not_false,Bool.true_and,Bool.and_true,Bool.false_or,if_true]
          · simp [e,e1,e2,e3,e4]) (by simp only [Gs,Zb6,Ze7,Option.bind_some,Int.lt_irrefl,decide_false,cond_false])
  rw [Wr] at h;simp only [Zcz,h,K12]
  generalize (List.all _ _ : Bool)=b
  cases b <;> simp
theorem Zrd (p : GPlan) (s : GState) (hok : Zqf s) : Zc0 p s=some (K13 p s):=by
  have h:=Zdb (L:=Gt p s) (l:=p.Pages.zip s.Pages) (z:=()) (fun _ x=>decide (x.1.Rights=x.2.Rights)) (fun i x hi hx=>by
    obtain⟨h1,h2⟩:=List.getElem?_zip_eq_some.1 hx;have hl : i < s.Pages.length:=(List.getElem?_eq_some_iff.1 h2).1;have g1 : rdI p.Pages (i : Int)=some x.1:=by simp [rdI,h1]
    have g2 : rdI s.Pages (i : Int)=some x.2:=by simp [rdI,h2]
    have g3 : IntKind.i64.wrap ((i : Int) + 1)=((i + 1 : Nat) : Int):=by have:=hok.1.2.2;rw [Wa ⟨by omega,by omega⟩];rfl
    have g4 : (i : Int) < ((p.Pages.zip s.Pages).length : Int):=by omega
    have hcm : (x.2.Rights=x.1.Rights)=(x.1.Rights=x.2.Rights):=propext ⟨Eq.symm,Eq.symm⟩;simp only [Gt,Zb6,Ze7,g1,g2,g3,g4,hcm,decide_true,cond_true,Option.bind_some]
    by_cases e : x.1.Rights=x.2.Rights <;> simp [e]) (by simp only [Gt,Zb6,Ze7,Option.bind_some,Int.lt_irrefl,decide_false,cond_false])
  rw [Wr] at h;simp only [Zc0,h,K13]
  generalize (List.all _ _ : Bool)=b
  cases b <;> simp
theorem Zpp (a b : Int) : (if a < b then a else b)=mn a b:=by unfold mn;split <;> split <;> omega
theorem Zre (p : GPlan) (s : GState) : Zc1 p s=some (K14 p s):=by
  have h:=Wk (L:=Gu p s) (l:=s.Procs) (z:=()) (fun _ x=>k14 p s x) (fun i x hi hx=>by
    simp only [Gu,Zb0,hi,hx,decide_true,cond_true,Option.bind_some,Zb6,Zpp,k14]
    by_cases e : x.Wait=2
    · by_cases e1 : 0 ≤ x.Obj
      · by_cases e2 : x.Obj < mn s.Up.length p.Events
        · have e3 : wn x.Obj (mn s.Up.length p.Events)=true:=by simp [wn,e1,e2]
          obtain⟨y,hy⟩:=Zh9 (Zoc e3 (Zod _ _).1);cases y <;> simp [e,e1,e2,e3,hy,upAt]
        · have e3 : wn x.Obj (mn s.Up.length p.Events)=false:=by simp [wn,e2]
          simp [e,e1,e2,e3]
      · have e3 : wn x.Obj (mn s.Up.length p.Events)=false:=by simp [wn,e1]
        simp [e,e1,e3]
    · simp [e]) (by simp [Gu])
  rw [Wr] at h;simp only [Zc1,h,K14]
  generalize (List.all _ _ : Bool)=b
  cases b <;> simp
theorem Zrf (p : GPlan) (s : GState) : Zc2 p s=some (K15 p s):=by
  have h:=Wk (L:=Gv p s) (l:=s.Procs) (z:=()) (fun _ x=>k15 p s x) (fun i x hi hx=>by
    simp only [Gv,Zb1,hi,hx,decide_true,cond_true,Option.bind_some,Zb6,Zpp,k15]
    by_cases e : x.Wait=3
    · by_cases e1 : 0 ≤ x.Obj
      · by_cases e2 : x.Obj < mn s.Sems.length p.Sems.length
        · have e3 : wn x.Obj (mn s.Sems.length p.Sems.length)=true:=by simp [wn,e1,e2]
          obtain⟨y,hy⟩:=Zh9 (Zoc e3 (Zod _ _).1)
          by_cases e4 : y=0 <;> simp [e,e1,e2,e3,hy,smAt,e4]
        · have e3 : wn x.Obj (mn s.Sems.length p.Sems.length)=false:=by simp [wn,e2]
          simp [e,e1,e2,e3]
      · have e3 : wn x.Obj (mn s.Sems.length p.Sems.length)=false:=by simp [wn,e1]
        simp [e,e1,e3]
    · simp [e]) (by simp [Gv])
  rw [Wr] at h;simp only [Zc2,h,K15]
  generalize (List.all _ _ : Bool)=b
  cases b <;> simp
theorem Zrg (p : GPlan) (s : GState) : Zc3 p s=some (K16 p s):=by
  have h:=Wk (L:=Wx p s) (l:=s.Procs) (z:=()) (fun _ x=>k16 p s x) (fun i x hi hx=>by
    simp only [Wx,Za2,Za1,Za0,hi,hx,decide_true,cond_true,Option.bind_some,Zb6,Zpp,k16,Zwc (s.Ports.length : Int)]
    by_cases e : x.Wait=4
    · by_cases e1 : x.Obj < 0
      · have e3 : wn x.Obj (mn p.Ports.length s.Ports.length)=false:=by unfold wn;simp;omega
        simp [e,e1,e3]
      · by_cases e2 : mn p.Ports.length s.Ports.length ≤ x.Obj
        · have e3 : wn x.Obj (mn p.Ports.length s.Ports.length)=false:=by unfold wn;simp;omega
          simp [e,e1,e2,e3]
        · have e3 : wn x.Obj (mn p.Ports.length s.Ports.length)=true:=by unfold wn;simp;omega
          obtain⟨y,hy⟩:=Zh9 (Zoc e3 (Zod _ _).1);obtain⟨z,hz⟩:=Zh9 (Zoc e3 (Zod _ _).2);simp only [e,e1,e2,e3,hy,hz,decide_true,decide_false,cond_true,cond_false,Option.bind_some,Bool.not_true,Bool.not_false,Bool.and_self,if_true,k16i]
          by_cases e4 : y.Kind=3
          · have e5 : ¬ y.Kind=4:=by omega
            by_cases e6 : z.Msgs.length=0
            · simp only [e4,e5,e6,decide_true,decide_false,cond_true,cond_false,Option.bind_some,Bool.not_true,if_true,show ¬ (3 : Int)=4 by decide]
            · simp only [e4,e5,e6,decide_true,decide_false,cond_true,cond_false,Option.bind_some,Bool.not_false,Bool.false_eq_true,if_true,if_false]
          · by_cases e5 : y.Kind=4
            · by_cases e6 : (z.Msgs.length : Int)=y.Depth
              · simp only [e5,e6,decide_true,decide_false,cond_true,cond_false,Option.bind_some,Bool.not_true,if_true,if_false,show ¬ (4 : Int)=3 by decide]
              · simp only [e5,e6,decide_true,decide_false,cond_true,cond_false,Option.bind_some,Bool.not_false,Bool.false_eq_true,if_true,if_false,show ¬ (4 : Int)=3 by decide]
            · simp only [e4,e5,decide_false,cond_false,Option.bind_some,if_false,if_true]
    · simp [e]) (by simp [Wx])
  rw [Wr] at h;simp only [Zc3,h,K16]
  generalize (List.all _ _ : Bool)=b
  cases b <;> simp
theorem Zrh (p : GPlan) (s : GState) (hok : Zqf s) : Zc4 p s=some (K17 p s):=by
  have h:=Zdb (L:=Gw p s) (l:=p.Ports.zip s.Ports) (z:=()) (fun _ x=>k17 x) (fun i x hi hx=>by
    obtain⟨g1,g2,g3,g4⟩:=Zta hok hi hx;simp only [Gw,Zb2,Zb6,Ze7,g1,g2,g3,g4,decide_true,cond_true,Option.bind_some,k17];have e6 : decide (0 < x.2.Msgs.length) = !decide (x.2.Msgs.length=0):=by
      by_cases e : x.2.Msgs.length=0
      · rw [e];rfl
      · have : 0 < x.2.Msgs.length:=by omega
        simp [e,this]
    rw [e6]
    by_cases e7 : x.2.Msgs.length=0
    · by_cases e2 : x.1.Kind=2
      · simp only [e2,e7,decide_true,cond_true,cond_false,Option.bind_some,Bool.not_true,Bool.true_or,Bool.or_true,if_true]
      · by_cases e4 : x.1.Kind=4
        · simp only [e2,e4,e7,decide_true,decide_false,cond_true,cond_false,Option.bind_some,Bool.not_true,Bool.false_or,Bool.or_true,if_true,show ¬ (4 : Int)=2 by decide]
        · simp only [e2,e4,e7,decide_true,decide_false,cond_false,Option.bind_some,Bool.or_self,Bool.not_false,Bool.true_or,if_true]
    · by_cases e2 : x.1.Kind=2
      · simp only [e2,e7,decide_true,decide_false,cond_true,Option.bind_some,Bool.not_true,Bool.not_false,Bool.true_or,Bool.or_false,Bool.false_eq_true,if_false]
      · by_cases e4 : x.1.Kind=4
        · simp only [e2,e4,e7,decide_true,decide_false,cond_true,cond_false,Option.bind_some,Bool.not_true,Bool.not_false,Bool.false_or,Bool.or_false,Bool.false_eq_true,if_false,show ¬ (4 : Int)=2 by decide]
        · simp only [e2,e4,e7,decide_false,cond_false,Option.bind_some,Bool.or_self,Bool.not_false,Bool.true_or,if_true]) (by simp only [Gw,Zb6,Ze7,Option.bind_some,Int.lt_irrefl,decide_false,cond_false])
  rw [Wr] at h;simp only [Zc4,h,K17]
  generalize (List.all _ _ : Bool)=b
  cases b <;> simp
theorem Zul (s : GState) : Kj (Hj s) 0=some (if K10 s=true then .inl () else .inr false):=by
  have h:=Wk (L:=Hj s) (l:=s.Sems) (z:=()) (fun _ n=>bt n 0 255) (fun i x hi hx=>by
    simp only [Hj,Zdv,hi,hx,decide_true,cond_true,Option.bind_some]
    by_cases e1 : x < 0
    · have e : bt x 0 255=false:=by unfold bt;simp;omega
      simp [e,e1]
    · by_cases e2 : 255 < x
      · have e : bt x 0 255=false:=by unfold bt;simp;omega
        simp [e,e1,e2]
      · have e : bt x 0 255=true:=by unfold bt;simp;omega
        simp [e,e1,e2]) (by simp [Hj])
  rw [Wr] at h;exact h
theorem Zum (p : GPlan) (s : GState) (hok : Zqf s) (k : Nat) (hk : k < 17) : Jt ((k + 1 : Nat) : Int) p s=some (Zky p s)[k]:=by
  have h4:=Zs3 s;have h5:=Zs4 s;have h6:=Zs5 p s;have h7:=Zs6 s hok;have h8:=Zs8 s hok;have h9:=Zs9 s;have h10:=Zul s;have h11:=Zrb p s hok;have h12:=Zrc p s hok;have h13:=Zrd p s hok;have h14:=Zre p s;have h15:=Zrf p s;have h16:=Zrg p s;have h17:=Zrh p s hok
  match k,hk with
  | 0,_=>rfl
  | 1,_=>simp [Jt,Zky,K2,bt,Bool.and_assoc]
  | 2,_=>rfl
  | 3,_=>simp [Jt,Zky,h4]
  | 4,_=>simp [Jt,Zky,h5]
  | 5,_=>simp [Jt,Zky,h6]
  | 6,_=>simp [Jt,Zky,h7]
  | 7,_=>simp [Jt,Zky,h8]
  | 8,_=>simp [Jt,Zky,h9]
  | 9,_=>
    simp only [Jt,h10];have : (Zky p s)[9]=K10 s:=rfl;rw [this]
    rcases Bool.eq_false_or_eq_true (K10 s) with e|e <;> simp [e]
  | 10,_=>simp [Jt,Kw,Zky,h11]
  | 11,_=>simp [Jt,Kw,Zky,h12]
  | 12,_=>simp [Jt,Kw,Zky,h13]
  | 13,_=>simp [Jt,Kw,Zky,h14]
  | 14,_=>simp [Jt,Kw,Zky,h15]
  | 15,_=>simp [Jt,Kw,Zky,h16]
  | 16,_=>simp [Jt,Kw,Zky,h17]
  | k + 17,hk=>exact absurd hk (by omega)
theorem Zri (p : GPlan) (s : GState) (hok : Zqf s) : Zbf p s=some (Hn p s):=by
  unfold Hn
  by_cases h : Zex p=.nil
  rotate_left
  · rw [if_pos h];simp only [Zbf,Ziv,h,decide_false,Bool.not_false,cond_true,Option.bind_some]
  rw [if_neg (by simpa using h)];have hkp:=Zum p s hok
  generalize Zky p s=v at hkp
  have h17 : v.toList.length=17:=by simp
  have key : ∀ m k,k + m=17 → Kj (Wi p s) (brk 0 (v.toList.take k),((k + 1 : Nat) : Int))=some (brk 0 v.toList):=by
    intro m
    induction m with
    | zero=>
      intro k hk;obtain rfl : k=17:=by omega
      rw [List.take_of_length_le (by omega)];exact Wl (by simp [Wi])
    | succ m ih=>
      intro k hk;have hlt : k < 17:=by omega
      have hlt' : k < v.toList.length:=by omega
      have hb : v.toList[k]? = some v[k]:=by simp [hlt]
      have hrd:=hkp k hlt;have hl:=Zpn (v.toList.take k) 0;rw [List.length_take] at hl;have hc : ((brk 0 (v.toList.take k)).length + [((k + 1 : Nat) : Int)].length) * 8 ≤ 140737488355328:=by
        simp only [List.length_cons,List.length_nil];omega
      have hle : ((k + 1 : Nat) : Int) ≤ 17:=by omega
      have hw : IntKind.i64.wrap (((k + 1 : Nat) : Int) + 1)=((k + 1 + 1 : Nat) : Int):=by rw [Wa ⟨by omega,by omega⟩];rfl
      have hs : Wi p s (brk 0 (v.toList.take k),((k + 1 : Nat) : Int))=some (.inl (brk 0 (v.toList.take (k + 1)),((k + 1 + 1 : Nat) : Int))):=by
        rw [Vv hb,Znf,List.length_take,Nat.min_eq_left (by omega),Nat.zero_add];simp only [Wi,Zb3,hle,hrd,hw,decide_true,cond_true,Option.bind_some,chk,hc,if_true]
        rcases Bool.eq_false_or_eq_true v[k] with e|e <;> simp [e]
      rw [Uu hs];exact ih (k + 1) (by omega)
  have h0:=key 17 0 rfl;rw [List.take_zero] at h0;simp only [Zbf,Ziv,h,decide_true,Bool.not_true,cond_false,Option.bind_some];exact (congrArg (fun o=>Option.bind o fun l=>some l) h0)
theorem Ztb (p : GPlan) (s : GState) (hok : Zqf s) (last : Int) : Zeo p s last=some ((Zlt p s last).code,(Zlt p s last).place):=by
  simp only [Zeo,Zcm,Zri p s hok,Option.bind_some,Zlt];cases h : Hn p s with
  | nil=>simp [cNil,pNil]
  | cons x r=>
    by_cases e : last < x
    · simp [e,cNil,pNil]
    · by_cases e2 : x=0
      · subst e2;simp [e,cPlan,pV]
      · have c9 : (ErrM.pl x Ho).code=9:=by rw [cPl,cState]
        simp [e,e2,c9,pPl]
theorem Zun {v : List UInt8} {s : List UInt8} {k : Nat} {c : UInt8} (hk : k < s.length) (hv : k < v.length) (hc : s[k]? = some c) : (s.take k ++ v.drop k).set k c=s.take (k + 1) ++ v.drop (k + 1):=by
  have hl : (s.take k).length=k:=by rw [List.length_take];omega
  have hd : v.drop k=v[k] :: v.drop (k + 1):=List.drop_eq_getElem_cons hv;rw [List.set_append_right _ _ (by omega),hl,Nat.sub_self,hd,List.set_cons_zero,List.take_add_one,hc];simp
theorem Zuo (p : GPlan) (i : Nat) (x : GPagePlan) (hx : p.Pages[i]? = some x) (hs : x.Init.size ≤ 64) : Kj (Hi p i) (0,(⟨x.Rights,false,Vector.replicate 64 0⟩ : GPage))=some (Zhd x):=by
  have hsz : x.Init.data.toList.length=x.Init.size:=rfl;have h:=Zfv (L:=Hi p i) (fun s : Int × GPage=>∃ k : Nat,k ≤ x.Init.size ∧ s.1=(k : Int) ∧ s.2.Rights=x.Rights ∧ s.2.Dirty=false ∧ s.2.Data.toList=x.Init.data.toList.take k ++ (Vector.replicate 64 (0 : UInt8)).toList.drop k) (fun r=>r=Zhd x) (fun s=>x.Init.size - s.1.toNat) (fun s hI=>by
    obtain⟨z,t⟩:=s;obtain⟨k,hk,hz,hR,hD,hl⟩:=hI;simp only at hz hR hD hl;subst hz
    by_cases hlt : k < x.Init.size
    · have e1 : (k : Int) < ((x.Init.size : Nat) : Int):=by omega
      have hrd : rdS x.Init (k : Int)=some (((x.Init[k]'hlt).toNat : Nat) : Int):=by
        unfold rdS;rw [dif_pos ⟨by omega,by simpa using hlt⟩];rfl
      have hb : Zb9 (((x.Init[k]'hlt).toNat : Nat) : Int)=x.Init[k]'hlt:=by
        have h1:=Zgu (((x.Init[k]'hlt).toNat : Nat) : Int);have h2:=(x.Init[k]'hlt).toNat_lt;apply UInt8.toNat_inj.1;omega
      have hc : x.Init.data.toList[k]? = some (x.Init[k]'hlt):=by
        rw [List.getElem?_eq_getElem (by rw [hsz];exact hlt)];rfl
      have hv : rdV t.Data (k : Int)=some (t.Data[k]'(by omega)):=by
        rw [Zsd];simp
      have hw : IntKind.i64.wrap ((k : Int) + 1)=((k + 1 : Nat) : Int):=by rw [Wa ⟨by omega,by omega⟩];omega
      refine .inl ⟨(((k + 1 : Nat) : Int),⟨t.Rights,t.Dirty,t.Data.setIfInBounds k (x.Init[k]'hlt)⟩),?_,⟨k + 1,by omega,rfl,hR,hD,?_⟩,by simp only;omega⟩
      · simp only [Hi,hx,e1,hrd,hv,hw,hb,decide_true,cond_true,Option.bind_some,Int.toNat_natCast]
      · have : (t.Data.setIfInBounds k (x.Init[k]'hlt)).toList=t.Data.toList.set k (x.Init[k]'hlt):=by
          simp [Vector.toList]
        rw [this,hl,Zun (by omega) (by simp;omega) hc]
    · have e1 : ¬ (k : Int) < ((x.Init.size : Nat) : Int):=by omega
      obtain rfl : k=x.Init.size:=by omega
      refine .inr ⟨t,?_,?_⟩
      · simp only [Hi,hx,e1,decide_false,cond_false,Option.bind_some]
      · have : t.Data=cpyV (Vector.replicate 64 0) x.Init:=by
          apply Vector.toList_inj.1;rw [hl,Zsi,cpyL];rw [List.take_of_length_le (by omega),List.take_of_length_le (by simp;omega)]
        cases t
        simp only at hR hD this;simp only [Zhd,hR,hD,this]) (s:=(0,⟨x.Rights,false,Vector.replicate 64 0⟩)) ⟨0,Nat.zero_le _,rfl,rfl,rfl,by simp⟩
  obtain⟨_,h,rfl⟩:=h;exact h
theorem Zqg {p : GPlan} (h : Zex p=.nil) : Zdy p=some (Zhe p):=by
  have ok:=okP_of h;have okK:=okK_of h;have hA:=Zfv (L:=Ta p) (fun s : Nat × List GProc × List Int=>s.1 ≤ p.Procs.length ∧ s.2.1=(p.Procs.take s.1).map Zpo ∧ s.2.2=Zdk 0 (p.Procs.take s.1)) (fun r=>r=(p.Procs.map Zpo,Zdk 0 p.Procs)) (fun s=>p.Procs.length - s.1) (fun s hI=>by
    obtain⟨i,l1,l2⟩:=s;obtain⟨hi,h1,h2⟩:=hI;simp only at hi h1 h2
    by_cases hlt : i < p.Procs.length
    · have hx : p.Procs[i]? = some p.Procs[i]:=List.getElem?_eq_getElem hlt
      generalize p.Procs[i]=x at hx
      have hl1 : l1.length=i:=by rw [h1];simp;omega
      have hl2:=Zqe (p.Procs.take i) 0;rw [← h2,List.length_take] at hl2;have hp:=ok.pr1;have c1 : ∀ t : GProc,(l1.length + [t].length) * 104 ≤ 140737488355328:=fun t=>by simp only [List.length_cons,List.length_nil];omega
      have c2 : (l2.length + [((i : Nat) : Int)].length) * 8 ≤ 140737488355328:=by simp only [List.length_cons,List.length_nil];omega
      have e1 : (p.Procs.take (i + 1)).map Zpo=l1 ++ [Zpo x]:=by rw [Vv hx,List.map_append,h1];rfl
      have e2 : Zdk 0 (p.Procs.take (i + 1))=l2 ++ (if x.Auto=true then [((i : Nat) : Int)] else []):=by rw [Vv hx,Zoj,← h2,List.length_take,Nat.min_eq_left (by omega),Nat.zero_add]
      refine .inl ⟨(i + 1,l1 ++ [Zpo x],l2 ++ (if x.Auto=true then [((i : Nat) : Int)] else [])),?_,⟨by simp only;omega,e1.symm,e2.symm⟩,by simp only;omega⟩;simp only [Ta,Zds,hlt,hx,decide_true,cond_true,Option.bind_some,Zpo]
      rcases Bool.eq_false_or_eq_true x.Auto with e|e
      · simp only [e,cond_true,chk,c1,c2,if_true,Option.bind_some]
      · simp only [e,cond_false,chk,c1,if_true,Option.bind_some,Bool.false_eq_true,if_false,List.append_nil]
    · refine .inr ⟨(l1,l2),?_,?_⟩
      · simp only [Ta,hlt,decide_false,cond_false]
      · have : p.Procs.take i=p.Procs:=List.take_of_length_le (by omega);rw [this] at h1 h2;rw [h1,h2]) (s:=(0,[],[])) ⟨Nat.zero_le _,rfl,rfl⟩
  obtain⟨_,hA,rfl⟩:=hA;have hB:=Zfv (L:=Hx p) (fun s : Nat × List GPage=>s.1 ≤ p.Pages.length ∧ s.2=(p.Pages.take s.1).map Zhd) (fun r=>r=p.Pages.map Zhd) (fun s=>p.Pages.length - s.1) (fun s hI=>by
    obtain⟨i,l1⟩:=s;obtain⟨hi,h1⟩:=hI;simp only at hi h1
    by_cases hlt : i < p.Pages.length
    · have hx : p.Pages[i]? = some p.Pages[i]:=List.getElem?_eq_getElem hlt;have hsx:=(okK.pag p.Pages[i] (List.getElem_mem hlt)).2.2
      generalize p.Pages[i]=x at hx hsx
      have hl1 : l1.length=i:=by rw [h1];simp;omega
      have hp:=ok.pg1;have c1 : ∀ t : GPage,(l1.length + [t].length) * 80 ≤ 140737488355328:=fun t=>by simp only [List.length_cons,List.length_nil];omega
      have e1 : (p.Pages.take (i + 1)).map Zhd=l1 ++ [Zhd x]:=by rw [Vv hx,List.map_append,h1];rfl
      refine .inl ⟨(i + 1,l1 ++ [Zhd x]),?_,⟨by simp only;omega,e1.symm⟩,by simp only;omega⟩;simp only [Hx,hlt,hx,Zuo p i x hx hsx,decide_true,cond_true,Option.bind_some,chk,c1,if_true]
    · refine .inr ⟨l1,?_,?_⟩
      · simp only [Hx,hlt,decide_false,cond_false]
      · have : p.Pages.take i=p.Pages:=List.take_of_length_le (by omega);rw [this] at h1;rw [h1]) (s:=(0,[])) ⟨Nat.zero_le _,rfl⟩
  obtain⟨_,hB,rfl⟩:=hB;have c0:=ok.ev0;have c1:=ok.ev1;have hC:=Zfv (L:=Hz p) (fun s : Int × List Bool=>∃ k : Nat,(k : Int) ≤ p.Events ∧ s.1=(k : Int) ∧ s.2=List.replicate k false) (fun r=>r=List.replicate p.Events.toNat false) (fun s=>p.Events.toNat - s.1.toNat) (fun s hI=>by
    obtain⟨z,l⟩:=s;obtain⟨k,hk,hz,hl⟩:=hI;simp only at hz hl;subst hz hl
    by_cases hlt : (k : Int) < p.Events
    · have hw : IntKind.i64.wrap ((k : Int) + 1)=((k + 1 : Nat) : Int):=by rw [Wa ⟨by omega,by omega⟩];omega
      have c : ((List.replicate k false).length + [false].length) * 1 ≤ 140737488355328:=by simp;omega
      refine .inl ⟨(((k + 1 : Nat) : Int),List.replicate (k + 1) false),?_,⟨k + 1,by omega,rfl,rfl⟩,by simp only;omega⟩;simp only [Hz,hlt,hw,chk,c,if_true,decide_true,cond_true];rw [List.replicate_succ']
    · refine .inr ⟨List.replicate k false,?_,?_⟩
      · simp only [Hz,hlt,decide_false,cond_false]
      · congr 1;omega) (s:=(0,[])) ⟨0,by omega,rfl,rfl⟩
  obtain⟨_,hC,rfl⟩:=hC;have hD:=Zfv (L:=Hy p) (fun s : Nat × List GPort=>s.1 ≤ p.Ports.length ∧ s.2=List.replicate s.1 ⟨[],0⟩) (fun r=>r=List.replicate p.Ports.length ⟨[],0⟩) (fun s=>p.Ports.length - s.1) (fun s hI=>by
    obtain⟨i,l⟩:=s;obtain⟨hi,hl⟩:=hI;simp only at hi hl;subst hl;have hp:=ok.po1
    by_cases hlt : i < p.Ports.length
    · have c : ((List.replicate i (⟨[],0⟩ : GPort)).length + 1) * 32 ≤ 140737488355328:=by simp;omega
      refine .inl ⟨(i + 1,List.replicate (i + 1) ⟨[],0⟩),?_,⟨by simp only;omega,rfl⟩,by simp only;omega⟩;simp only [Hy,hlt,chk,c,if_true,decide_true,cond_true];rw [List.replicate_succ']
    · refine .inr ⟨List.replicate i ⟨[],0⟩,?_,?_⟩
      · simp only [Hy,hlt,decide_false,cond_false]
      · congr 1;omega) (s:=(0,[])) ⟨Nat.zero_le _,rfl⟩
  obtain⟨_,hD,rfl⟩:=hD;have c2 : (([] : List Int).length + p.Sems.length) * 8 ≤ 140737488355328:=by have:=ok.se1;simp only [List.length_nil];omega
  simp only [Zdy,chk,c2,hA,hB,hC,hD,Option.bind_some,if_true,List.nil_append];rfl
theorem Zb7 {α : Type} {L : Nat → Option (Nat ⊕ (Unit ⊕ Bool))} {l : List α} (h : ∀ i x,i < l.length → l[i]? = some x → L i=some (.inl (i + 1))) (h2 : L l.length=some (.inr (.inl ()))) : Kj L 0=some (.inl ()):=by
  have hL:=Uj (L:=L) (l:=l) (f:=fun _ _=>none) (fun i x hi hx=>by rw [h i x hi hx,Zcp]) h2;rw [hL];have : ∀ (l : List α) k,Jc (fun (_ : Nat) (_ : α)=>(none : Option Bool)) k l=none:=by
    intro l
    induction l with
    | nil=>intro k;rfl
    | cons x r ih=>intro k;rw [Jc];exact ih _
  rw [this];rfl
theorem Zng (l : List Int) : Zae l l=some true:=by
  have h:=Zb7 (L:=Vu l l) (l:=l) (fun i x hi hx=>by
    simp only [Vu,hi,hx,decide_true,cond_true,Option.bind_some,Bool.not_true,cond_false]) (by simp [Vu])
  simp only [Zae,h,decide_true,Bool.not_true,cond_false,Option.bind_some]
theorem Znh (s : GState) : Vi s s=some true:=by
  have h1:=Zb7 (L:=Vb s s) (l:=s.Procs) (fun i x hi hx=>by
    simp only [Vb,hi,hx,decide_true,cond_true,Option.bind_some,Bool.not_true,cond_false]) (by simp [Vb])
  have h2:=Zb7 (L:=Va s s) (l:=s.Timers) (fun i x hi hx=>by
    simp only [Va,hi,hx,decide_true,cond_true,Option.bind_some,Bool.not_true,cond_false]) (by simp [Va])
  have h3:=Zb7 (L:=Yz s s) (l:=s.Up) (fun i x hi hx=>by
    simp only [Yz,hi,hx,decide_true,cond_true,Option.bind_some,beq_self_eq_true,Bool.not_true,cond_false]) (by simp [Yz])
  have h4:=Zb7 (L:=Yy s s) (l:=s.Ports) (fun i x hi hx=>by
    have h:=Zb7 (L:=Yx s s i) (l:=x.Msgs) (fun j m hj hm=>by
      simp only [Yx,hx,hj,hm,decide_true,cond_true,Option.bind_some,Bool.not_true,cond_false]) (by simp [Yx,hx])
    simp only [Yy,Zar,hi,hx,h,decide_true,cond_true,Option.bind_some,Bool.not_true,cond_false]) (by simp [Yy])
  simp only [Vi,h1,h2,h3,h4,Zng,decide_true,Bool.not_true,Bool.or_false,cond_false,cond_true,Option.bind_some]
theorem Zgc (s : GState) : Zcc s s=some true:=by
  have h:=Zb7 (L:=Zaf s s) (l:=s.Pages) (fun i x hi hx=>by
    simp only [Zaf,hi,hx,decide_true,cond_true,Option.bind_some,Bool.not_true,cond_false]) (by simp [Zaf])
  simp only [Zcc,Zdr,Znh,h,decide_true,Bool.not_true,cond_false,Option.bind_some]
end Go.Proofs.YtjekfpnpfllaoaaGreatDoor
set_option linter.unusedVariables false
set_option linter.unusedSimpArgs false
set_option linter.unusedSectionVars false
namespace Go.Proofs.YtjekfpnpfllaoaaGreatDoor
open Go Go.RowKit
structure OkS (s : GState) : Prop where
  a : s.Procs.length * 104 ≤ 140737488355328
  b : s.Ready.length * 8 ≤ 140737488355328
  c : s.Timers.length * 16 ≤ 140737488355328
  d : s.Up.length * 1 ≤ 140737488355328
  e : s.Sems.length * 8 ≤ 140737488355328
  f : s.Pages.length * 80 ≤ 140737488355328
  g : s.Ports.length * 32 ≤ 140737488355328
  h : ∀ x ∈ s.Ports,x.Msgs.length * 16 ≤ 140737488355328
theorem OkS.sm {s : GState} (ok : OkS s) : Zqf s:=by
  obtain⟨ha,hb,hc,hd,he,hf,hg,hh⟩:=ok;exact⟨⟨by omega,by omega,by omega⟩,by omega,by omega⟩
theorem Hs {s : GState} (ok : OkS s) : Jf s=some s:=by
  obtain⟨ha,hb,hc,hd,he,hf,hg,hh⟩:=ok;have hL:=Zd1 (L:=Zad s) (fun t : Nat × List GPort=>t.1 ≤ s.Ports.length ∧ t.2=s.Ports.take t.1) (fun r=>r=s.Ports) (fun t=>s.Ports.length - t.1) (fun t hI=>by
    obtain⟨i,l1⟩:=t;obtain⟨hi,h1⟩:=hI;simp only at hi h1
    by_cases hlt : i < s.Ports.length
    · have hx : s.Ports[i]? = some s.Ports[i]:=List.getElem?_eq_getElem hlt;have hm:=hh _ (List.getElem_mem hlt)
      generalize s.Ports[i]=x at hx hm
      have hl1 : l1.length=i:=by rw [h1];simp;omega
      have c1 : (([] : List ByteArray).length + x.Msgs.length) * 16 ≤ 140737488355328:=by simp only [List.length_nil];omega
      have c2 : (l1.length + 1) * 32 ≤ 140737488355328:=by omega
      refine .inl ⟨(i + 1,l1 ++ [x]),?_,⟨by simp only;omega,by simp only;rw [Ziw hx,h1]⟩,by simp only;omega⟩;simp only [Zad,hlt,hx,decide_true,cond_true,Option.bind_some,chk,c1,c2,if_true,List.nil_append]
    · refine .inr ⟨l1,?_,?_⟩
      · simp only [Zad,hlt,decide_false,cond_false]
      · rw [h1,List.take_of_length_le (by omega)]) (s:=(0,[])) ⟨Nat.zero_le _,rfl⟩
  obtain⟨_,hL,rfl⟩:=hL;have c1 : (([] : List GProc).length + s.Procs.length) * 104 ≤ 140737488355328:=by simp only [List.length_nil];omega
  have c2 : (([] : List Int).length + s.Ready.length) * 8 ≤ 140737488355328:=by simp only [List.length_nil];omega
  have c3 : (([] : List GTimer).length + s.Timers.length) * 16 ≤ 140737488355328:=by simp only [List.length_nil];omega
  have c4 : (([] : List Bool).length + s.Up.length) * 1 ≤ 140737488355328:=by simp only [List.length_nil];omega
  have c5 : (([] : List Int).length + s.Sems.length) * 8 ≤ 140737488355328:=by simp only [List.length_nil];omega
  have c6 : (([] : List GPage).length + s.Pages.length) * 80 ≤ 140737488355328:=by simp only [List.length_nil];omega
  simp only [Jf,chk,c1,c2,c3,c4,c5,c6,if_true,hL,Option.bind_some,List.nil_append]
theorem Ztc {α : Type} {l : List α} {i : Nat} {x : α} (h : l[i]? = some x) : l.set i x=l:=by
  apply List.ext_getElem?;intro j;rw [List.getElem?_set]
  by_cases e : i=j
  · subst e;rw [if_pos rfl,if_pos (List.getElem?_eq_some_iff.1 h).1,h]
  · rw [if_neg e]
theorem Zib {s : GState} (ok : OkS s) : Tq s=some s:=by
  obtain⟨ha,hb,hc,hd,he,hf,hg,hh⟩:=ok;have hL:=Zd1 (L:=Ge s) (fun t : Nat × Nat × List GPort=>t.1 ≤ s.Ports.length ∧ t.2.1=t.1 ∧ t.2.2=s.Ports) (fun r=>r=(s.Ports.length,s.Ports)) (fun t=>s.Ports.length - t.1) (fun t hI=>by
    obtain⟨i,j,l⟩:=t;obtain⟨hi,hj,hl⟩:=hI;simp only at hi hj hl;subst hj hl
    by_cases hlt : j < s.Ports.length
    · have hx : s.Ports[j]? = some s.Ports[j]:=List.getElem?_eq_getElem hlt;have hm:=hh _ (List.getElem_mem hlt)
      generalize s.Ports[j]=x at hx hm
      have c1 : (([] : List ByteArray).length + x.Msgs.length) * 16 ≤ 140737488355328:=by simp only [List.length_nil];omega
      refine .inl ⟨(j + 1,j + 1,s.Ports),?_,⟨by simp only;omega,rfl,rfl⟩,by simp only;omega⟩;have hset : s.Ports.set j ⟨x.Msgs,x.Age⟩=s.Ports:=Ztc hx;simp only [Ge,Ub,hlt,hx,hset,decide_true,cond_true,Option.bind_some,chk,c1,if_true,List.nil_append]
    · obtain rfl : j=s.Ports.length:=by omega
      exact .inr ⟨(s.Ports.length,s.Ports),by simp only [Ge,hlt,decide_false,cond_false],rfl⟩) (s:=(0,0,s.Ports)) ⟨Nat.zero_le _,rfl,rfl⟩
  obtain⟨_,hL,rfl⟩:=hL;have c1 : (([] : List GProc).length + s.Procs.length) * 104 ≤ 140737488355328:=by simp only [List.length_nil];omega
  have c2 : (([] : List Int).length + s.Ready.length) * 8 ≤ 140737488355328:=by simp only [List.length_nil];omega
  have c3 : (([] : List GTimer).length + s.Timers.length) * 16 ≤ 140737488355328:=by simp only [List.length_nil];omega
  have c4 : (([] : List Bool).length + s.Up.length) * 1 ≤ 140737488355328:=by simp only [List.length_nil];omega
  have c5 : (([] : List Int).length + s.Sems.length) * 8 ≤ 140737488355328:=by simp only [List.length_nil];omega
  have c6 : (([] : List GPage).length + s.Pages.length) * 80 ≤ 140737488355328:=by simp only [List.length_nil];omega
  have c7 : (([] : List GPort).length + s.Ports.length) * 32 ≤ 140737488355328:=by simp only [List.length_nil];omega
  simp only [Tq,Hd,Ua,Uw,He,Kh,chk,c1,c2,c3,c4,c5,c6,c7,if_true,hL,Option.bind_some,List.nil_append]
def atE (p : GPlan) (s : GState) : ErrM:=if Zex p ≠ .nil then .v Zd8 else if Hn p s=[] then .nil else .v Ho
theorem Ztd (p : GPlan) (s : GState) : Zlt p s 17=if Zex p ≠ .nil then .v Zd8 else match Hn p s with
    | []=>.nil
    | x :: _=>.pl x Ho := by
  unfold Zlt
  by_cases h : Zex p=.nil
  · rw [if_neg (fun c=>c h)];have hm : ∀ x ∈ Hn p s,1 ≤ x ∧ x ≤ 17:=fun x hx=>by
      unfold Hn at hx;rw [if_neg (fun c=>c h)] at hx;have:=Zs2 _ _ _ hx;have h17 : (Zky p s).toList.length=17:=by simp
      omega
    cases hf : Hn p s with
    | nil=>rfl
    | cons x r=>
      have:=hm x (by rw [hf];exact List.mem_cons_self ..);simp only;rw [if_neg (by omega),if_neg (by omega)]
  · rw [if_pos h];have hf : Hn p s=[0]:=by unfold Hn;rw [if_pos h]
    rw [hf];rfl
theorem Zkz (p : GPlan) : ∀ (l : List GState),(∀ s ∈ l,OkS s) → Ky p l=some (orN (Jc (fun _ s=>if atE p s=.nil then none else some (atE p s)) 0 l)):=by
  intro l hl;have hL:=Uj (L:=Yj p l) (l:=l) (f:=fun _ s=>if atE p s=.nil then none else some (atE p s)) (fun i s hi hx=>by
    have hr:=Zmf p s (hl s (List.mem_of_getElem? hx)).sm.1;rw [Ztd] at hr
    by_cases h : Zex p=.nil
    · rw [if_neg (fun c=>c h)] at hr;cases hf : Hn p s with
      | nil=>
        have ea : atE p s=.nil:=by unfold atE;rw [if_neg (fun c=>c h),if_pos hf]
        rw [ea];rw [hf] at hr;have g0 : ¬ (ErrM.nil.g? = some Zd8):=by decide
        simp only [Yj,hi,hx,hr,g0,decide_true,decide_false,cond_true,cond_false,Option.bind_some,Bool.not_true,if_true,Zcp]
      | cons x r=>
        have ea : atE p s=.v Ho:=by unfold atE;rw [if_neg (fun c=>c h),if_neg (by rw [hf];intro h;cases h)]
        rw [ea];rw [hf] at hr;have g0 : ¬ ((ErrM.pl x Ho).g? = some Zd8):=by intro h;exact absurd (Option.some.inj h) (by decide)
        have g1 : ¬ (ErrM.pl x Ho=.nil):=fun h=>by cases h
        have g3 : ¬ (ErrM.v Ho=.nil):=fun h=>by cases h
        simp only [Yj,hi,hx,hr,g0,g1,g3,decide_true,decide_false,cond_true,cond_false,Option.bind_some,Bool.not_false,if_false,Za3]
    · have ea : atE p s=.v Zd8:=by unfold atE;rw [if_pos h]
      rw [ea];rw [if_pos h] at hr;have g0 : (ErrM.v Zd8).g? = some Zd8:=rfl;have g3 : ¬ (ErrM.v Zd8=.nil):=fun h=>by cases h
      simp only [Yj,hi,hx,hr,g0,g3,decide_true,cond_true,Option.bind_some,if_false,Za3]) (by simp [Yj])
  simp only [Ky,hL];cases Jc (fun (_ : Nat) s=>if atE p s=.nil then none else some (atE p s)) 0 l <;> rfl
theorem Zok {p : GPlan} {s : GState} (h : OkS s) : Ky p [s]=some (atE p s):=by
  rw [Zkz p [s] (fun x hx=>by rw [List.mem_singleton.1 hx];exact h)]
  by_cases e : atE p s=.nil <;> simp [Jc,e,orN]
theorem Zte {p : GPlan} {s t : GState} (h : OkS s) (k : OkS t) : Ky p [s,t]=some (orE (atE p s) (atE p t)):=by
  rw [Zkz p [s,t] (fun x hx=>by
    rcases List.mem_cons.1 hx with rfl|hx
    · exact h
    · rw [List.mem_singleton.1 hx];exact k)]
  by_cases e : atE p s=.nil <;> by_cases e' : atE p t=.nil <;> simp [Jc,e,e',orN,orE]
theorem Zpq : (ErrM.v Ho).code=9:=by decide
theorem Zva : (ErrM.v Zd8).code=8:=by decide
theorem Zk0 : ErrM.nil.code=0:=by decide
theorem Zk1 {p : GPlan} {s : GState} (h : OkS s) : Zah p s=some (atE p s).code:=by
  have hr : Zfo p s=some ((Zlt p s 17).code,(Zlt p s 17).place):=by
    simp only [Zfo,Ztb p s h.sm,Option.bind_some]
  rw [Ztd] at hr;unfold atE
  by_cases e : Zex p=.nil
  · rw [if_neg (fun c=>c e)] at hr;rw [if_neg (fun c=>c e)];cases hf : Hn p s with
    | nil=>
      rw [hf] at hr;simp only [Zah,Ziv,e,hr,Zk0,decide_true,Bool.not_true,cond_false,Option.bind_some,if_true]
    | cons x r=>
      rw [hf] at hr;have g1 : (ErrM.pl x Ho).code=9:=by show (ErrM.v Ho).code=9;exact Zpq
      have g2 : ¬ (x :: r=[]):=fun h=>by cases h
      have g3 : ¬ ((9 : Int)=0):=by decide
      simp only [Zah,Ziv,e,hr,g1,g2,g3,Zpq,decide_true,decide_false,Bool.not_true,Bool.not_false,cond_true,cond_false,Option.bind_some,if_false]
  · rw [if_pos e];simp only [Zah,Ziv,e,Zva,decide_false,Bool.not_false,cond_true,Option.bind_some]
theorem To {p : GPlan} {s : GState} : (atE p s).code=0 ↔ atE p s=.nil:=by
  unfold atE;split
  · exact⟨(fun h=>by rw [Zva] at h;cases h),(fun h=>by cases h)⟩
  · split
    · exact⟨fun _=>rfl,fun _=>Zk0⟩
    · exact⟨(fun h=>by rw [Zpq] at h;cases h),(fun h=>by cases h)⟩
theorem Zez {p : GPlan} {s : GState} : (atE p s).place=-1:=by
  unfold atE;split
  · rfl
  · split <;> rfl
theorem same17 {e : ErrM} {c : Int} (h : e.code=c) (hp : e.place=-1) : Vy e c=some true:=by
  simp only [Vy,h,hp,decide_true,cond_true]
theorem Ztf {p : GPlan} {s : GState} (h : atE p s=.nil) : Zex p=.nil ∧ Hn p s=[]:=by
  unfold atE at h
  by_cases e : Zex p=.nil
  · rw [if_neg (fun c=>c e)] at h
    by_cases f : Hn p s=[]
    · exact⟨e,f⟩
    · rw [if_neg f] at h;cases h
  · rw [if_pos e] at h;cases h
theorem Ztg : ∀ (l : List Bool) (k : Nat),brk k l=[] → ∀ b ∈ l,b=true
  | [],_,_,b,hb=>by cases hb
  | x :: r,k,h,b,hb=>by
    rw [brk] at h;have h1:=List.append_eq_nil_iff.1 h
    rcases List.mem_cons.1 hb with rfl|hb
    · by_cases e : b=true
      · exact e
      · rw [if_neg e] at h1;cases h1.1
    · exact Ztg r (k + 1) h1.2 b hb
theorem Zth {p : GPlan} {s : GState} (h : atE p s=.nil) : K3 p s=true ∧ K13 p s=true:=by
  obtain⟨h1,h2⟩:=Ztf h;unfold Hn at h2;rw [if_neg (fun c=>c h1)] at h2;have:=Ztg _ _ h2;exact⟨this _ (by simp [Zky]),this _ (by simp [Zky])⟩
theorem Zhk {p : GPlan} {s : GState} (h : atE p s=.nil) : s.Pages.length=p.Pages.length:=by
  have:=(Zth h).1;unfold K3 at this;simp only [Bool.and_eq_true,decide_eq_true_eq] at this;omega
def Zi8 {α : Type} (q : α → Bool) : Nat → List α → List Int
  | _,[]=>[]
  | k,x :: r=>(if q x=true then [((k : Nat) : Int)] else []) ++ Zi8 q (k + 1) r
theorem Zol {α : Type} (q : α → Bool) (x : α) : ∀ (l : List α) (k : Nat),Zi8 q k (l ++ [x])=Zi8 q k l ++ (if q x=true then [((k + l.length : Nat) : Int)] else [])
  | [],k=>by simp [Zi8]
  | y :: r,k=>by
    rw [List.cons_append,Zi8,Zol q x r (k + 1),Zi8,List.append_assoc,List.length_cons,show k + 1 + r.length=k + (r.length + 1) by omega]
theorem Zni {α : Type} (q : α → Bool) : ∀ (l : List α) (k : Nat),(Zi8 q k l).length ≤ l.length
  | [],_=>Nat.le_refl _
  | y :: r,k=>by
    have:=Zni q r (k + 1);rw [Zi8,List.length_append,List.length_cons];split <;> simp <;> omega
theorem Zqh {α : Type} {L : List Int × Nat → Option ((List Int × Nat) ⊕ List Int)} {l : List α} (q : α → Bool) (hs : l.length * 8 ≤ 140737488355328)
    (h : ∀ (z : List Int) (i : Nat) (x : α),i < l.length → l[i]? = some x → (z.length + 1) * 8 ≤ 140737488355328 → L (z,i)=some (.inl (z ++ (if q x=true then [((i : Nat) : Int)] else []),i + 1))) (h2 : ∀ z,L (z,l.length)=some (.inr z)) :
    Kj L ([],0)=some (Zi8 q 0 l):=by
  have hL:=Zd1 (L:=L) (fun t=>t.2 ≤ l.length ∧ t.1=Zi8 q 0 (l.take t.2)) (fun r=>r=Zi8 q 0 l) (fun t=>l.length - t.2) (fun t hI=>by
    obtain⟨z,i⟩:=t;obtain⟨hi,hz⟩:=hI;simp only at hi hz
    by_cases hlt : i < l.length
    · have hx : l[i]? = some l[i]:=List.getElem?_eq_getElem hlt;have hn:=Zni q (l.take i) 0;rw [← hz,List.length_take] at hn;refine .inl ⟨_,h z i _ hlt hx (by omega),⟨by simp only;omega,?_⟩,by simp only;omega⟩;simp only;rw [Ziw hx,Zol,hz,List.length_take,Nat.min_eq_left (by omega),Nat.zero_add]
    · obtain rfl : i=l.length:=by omega
      exact .inr ⟨z,h2 z,by rw [hz,List.take_length]⟩) (s:=([],0)) ⟨Nat.zero_le _,rfl⟩
  obtain⟨_,hL,rfl⟩:=hL;exact hL
theorem Zdd (l : List GPage) (hs : l.length * 80 ≤ 140737488355328) : Vw l=some (Zi8 GPage.Dirty 0 l):=by
  have hL:=Zqh (L:=Yr l) (l:=l) GPage.Dirty (by omega) (fun z i x hi hx hz=>by
    have c : (z.length + [((i : Nat) : Int)].length) * 8 ≤ 140737488355328:=by simpa using hz
    rcases Bool.eq_false_or_eq_true x.Dirty with e|e
    · simp only [Yr,Gc,hi,hx,e,chk,c,if_true,decide_true,cond_true,Option.bind_some]
    · simp only [Yr,Gc,hi,hx,e,decide_true,cond_true,cond_false,Option.bind_some,Bool.false_eq_true,if_false,List.append_nil]) (fun z=>by simp [Yr])
  simp only [Vw,hL,Option.bind_some]
theorem Zk2 (s : GState) (hs : s.Pages.length * 80 ≤ 140737488355328) : Za7 s=some (Zi8 GPage.Dirty 0 s.Pages):=by
  have hL:=Zqh (L:=Un s) (l:=s.Pages) GPage.Dirty (by omega) (fun z i x hi hx hz=>by
    have c : (z.length + [((i : Nat) : Int)].length) * 8 ≤ 140737488355328:=by simpa using hz
    rcases Bool.eq_false_or_eq_true x.Dirty with e|e
    · simp only [Un,Zas,hi,hx,e,chk,c,if_true,decide_true,cond_true,Option.bind_some]
    · simp only [Un,Zas,hi,hx,e,decide_true,cond_true,cond_false,Option.bind_some,Bool.false_eq_true,if_false,List.append_nil]) (fun z=>by simp [Un])
  simp only [Za7,hL,Option.bind_some]
def Zbj (x : GPage) : GPage:=⟨x.Rights,false,x.Data⟩
theorem Zmg {l : List GPage} {i : Nat} {x : GPage} (hx : l[i]? = some x) : ((l.take i).map Zbj ++ l.drop i).set i (Zbj x)=(l.take (i + 1)).map Zbj ++ l.drop (i + 1):=by
  have hlt:=(List.getElem?_eq_some_iff.1 hx).1;have hl : ((l.take i).map Zbj).length=i:=by simp;omega
  have hd : l.drop i=x :: l.drop (i + 1):=by
    rw [List.drop_eq_getElem_cons hlt];congr 1;exact Option.some.inj ((List.getElem?_eq_getElem hlt).symm.trans hx)
  rw [List.set_append_right _ _ (by omega),hl,Nat.sub_self,hd,List.set_cons_zero,Ziw hx];simp
theorem Zrj (l : List GPage) (hs : l.length * 80 ≤ 140737488355328) : Zcv l=some (l.map Zbj):=by
  have c : (([] : List GPage).length + l.length) * 80 ≤ 140737488355328:=by simp only [List.length_nil];omega
  have hL:=Zd1 (L:=Gf l) (fun t=>t.2 ≤ l.length ∧ t.1=(l.take t.2).map Zbj ++ l.drop t.2) (fun r=>r=l.map Zbj) (fun t=>l.length - t.2) (fun t hI=>by
    obtain⟨z,i⟩:=t;obtain⟨hi,hz⟩:=hI;simp only at hi hz
    by_cases hlt : i < l.length
    · have hx : l[i]? = some l[i]:=List.getElem?_eq_getElem hlt
      generalize l[i]=x at hx
      have hx' : z[i]? = some x:=by
        rw [hz,List.getElem?_append_right (by simp;omega)];simp only [List.length_map,List.length_take,Nat.min_eq_left (Nat.le_of_lt hlt),Nat.sub_self,List.getElem?_drop,Nat.add_zero,hx]
      refine .inl ⟨(z.set i (Zbj x),i + 1),?_,⟨by simp only;omega,by simp only;rw [hz,Zmg hx]⟩,by simp only;omega⟩;simp only [Gf,hlt,hx',decide_true,cond_true,Option.bind_some,Zbj]
    · obtain rfl : i=l.length:=by omega
      refine .inr ⟨z,by simp only [Gf,hlt,decide_false,cond_false],?_⟩;rw [hz,List.take_length,List.drop_length,List.append_nil]) (s:=(l,0)) ⟨Nat.zero_le _,by simp⟩
  obtain⟨_,hL,rfl⟩:=hL;simp only [Zcv,Za6,Kh,chk,c,if_true,List.nil_append,hL,Option.bind_some]
theorem Zti (l : List GPage) : Kj Hk (0,l)=some (l.map Zbj):=by
  have hL:=Zd1 (L:=Hk) (fun t=>t.1 ≤ l.length ∧ t.2=(l.take t.1).map Zbj ++ l.drop t.1) (fun r=>r=l.map Zbj) (fun t=>l.length - t.1) (fun t hI=>by
    obtain⟨i,z⟩:=t;obtain⟨hi,hz⟩:=hI;simp only at hi hz;have hzl : z.length=l.length:=by rw [hz];simp;omega
    by_cases hlt : i < l.length
    · have hx : l[i]? = some l[i]:=List.getElem?_eq_getElem hlt
      generalize l[i]=x at hx
      have hx' : z[i]? = some x:=by
        rw [hz,List.getElem?_append_right (by simp;omega)];simp only [List.length_map,List.length_take,Nat.min_eq_left (Nat.le_of_lt hlt),Nat.sub_self,List.getElem?_drop,Nat.add_zero,hx]
      have hlt' : i < z.length:=by omega
      refine .inl ⟨(i + 1,z.set i (Zbj x)),?_,⟨by simp only;omega,by simp only;rw [hz,Zmg hx]⟩,by simp only;omega⟩;simp only [Hk,hlt',hx',decide_true,cond_true,Option.bind_some,Zbj]
    · obtain rfl : i=l.length:=by omega
      have hlt' : ¬ l.length < z.length:=by omega
      refine .inr ⟨z,by simp only [Hk,hlt',decide_false,cond_false],?_⟩;rw [hz,List.take_length,List.drop_length,List.append_nil]) (s:=(0,l)) ⟨Nat.zero_le _,by simp⟩
  obtain⟨_,hL,rfl⟩:=hL;exact hL
end Go.Proofs.YtjekfpnpfllaoaaGreatDoor
set_option linter.unusedVariables false
set_option linter.unusedSimpArgs false
set_option linter.unusedSectionVars false
namespace Go.Proofs.YtjekfpnpfllaoaaGreatDoor
open Go Go.RowKit
section
variable {σ ρ τ : Type}
theorem Zqi {L1 : σ → Option (σ ⊕ ρ)} {L2 : σ → Option (σ ⊕ τ)} (I : σ → Prop) (Q : ρ → τ → Prop) (μ : σ → Nat)
    (h : ∀ s,I s → (∃ s',L1 s=some (.inl s') ∧ L2 s=some (.inl s') ∧ I s' ∧ μ s' < μ s) ∨ (∃ a b,L1 s=some (.inr a) ∧ L2 s=some (.inr b) ∧ Q a b)) {s : σ} (h0 : I s) : ∃ a b,Kj L1 s=some a ∧ Kj L2 s=some b ∧ Q a b:=by
  have key : ∀ n s,μ s < n → I s → ∃ a b,Kj L1 s=some a ∧ Kj L2 s=some b ∧ Q a b:=by
    intro n
    induction n with
    | zero=>intro s hs;omega
    | succ n ih=>
      intro s hs hI
      rcases h s hI with ⟨s',h1,h2,h3,h4⟩ | ⟨a,b,h1,h2,h3⟩
      · obtain⟨a,b,k1,k2,k3⟩:=ih s' (by omega) h3;exact⟨a,b,(Uu h1).trans k1,(Uu h2).trans k2,k3⟩
      · exact⟨a,b,Wl h1,Wl h2,h3⟩
  exact key _ s (Nat.lt_succ_self _) h0
end
theorem cEnd : (ErrM.v Ztn).code=13:=by decide
def mkS (s : GState) : GState:=⟨s.Id,s.Frame,IntKind.i64.wrap (s.Epoch + 1),s.Procs,s.Ready,s.Timers,s.Up,s.Sems,s.Ports,s.Pages.map Zbj⟩
def zS : GState:=⟨0,0,0,[],[],[],[],[],[],[]⟩
theorem Zk3 {p : GPlan} {s : GState} (ok : OkS s) : Vx p s=some (if atE p s=.nil then (if s.Epoch=2147483647 then (zS,.v Ztn) else (mkS s,.nil)) else (zS,atE p s)):=by
  have h1:=Zok (p:=p) ok
  by_cases e : atE p s=.nil
  · by_cases m : s.Epoch=2147483647
    · simp only [Vx,h1,e,m,zS,decide_true,Bool.not_true,cond_false,cond_true,Option.bind_some,if_true]
    · simp only [Vx,h1,e,m,mkS,Zib ok,Zrj _ ok.f,decide_true,decide_false,Bool.not_true,cond_false,Option.bind_some,if_true,if_false]
  · simp only [Vx,h1,e,zS,decide_false,Bool.not_false,cond_true,Option.bind_some,if_false]
theorem Ztj {p : GPlan} {s : GState} (ok : OkS s) : Zbg p s=some (if atE p s=.nil then (if s.Epoch=2147483647 then (zS,13) else (mkS s,0)) else (zS,(atE p s).code)):=by
  have h1:=Zk1 (p:=p) ok
  by_cases e : atE p s=.nil
  · have c0:=To.2 e
    by_cases m : s.Epoch=2147483647
    · simp only [Zbg,h1,Zk0,e,m,zS,decide_true,Bool.not_true,cond_false,cond_true,Option.bind_some,if_true]
    · simp only [Zbg,h1,Zk0,e,m,mkS,Hs ok,Zti,decide_true,decide_false,Bool.not_true,cond_false,Option.bind_some,if_true,if_false]
  · have c1 : ¬ (atE p s).code=0:=fun h=>e (To.1 h)
    simp only [Zbg,h1,c1,e,zS,decide_false,Bool.not_false,cond_true,Option.bind_some,if_false]
theorem marks (p : GPlan) {s : GState} (ok : OkS s) : ∃ x e,Vx p s=some (x,e) ∧ Zbg p s=some (x,e.code) ∧ e.place=-1:=by
  rw [Zk3 ok,Ztj ok];split
  · split
    · exact⟨_,_,rfl,by rw [cEnd],rfl⟩
    · exact⟨_,_,rfl,rfl,rfl⟩
  · exact⟨_,_,rfl,rfl,Zez⟩
theorem Ztk (p : GPlan) {s : GState} (ok : OkS s) : ∃ l e,Jb p s=some (l,e) ∧ Zcd p s=some (l,e.code) ∧ e.place=-1 ∧ (e=.nil → atE p s=.nil ∧ l=Zi8 GPage.Dirty 0 s.Pages):=by
  have h1:=Zok (p:=p) ok;have h2:=Zk1 (p:=p) ok
  by_cases e : atE p s=.nil
  · have c0:=To.2 e;refine⟨_,.nil,?_,?_,rfl,fun _=>⟨e,rfl⟩⟩
    · simp only [Jb,h1,e,Zdd _ ok.f,decide_true,Bool.not_true,cond_false,Option.bind_some]
    · simp only [Zcd,h2,c0,Zk0,Zk2 s ok.f,decide_true,Bool.not_true,cond_false,Option.bind_some]
  · have c1 : ¬ (atE p s).code=0:=fun h=>e (To.1 h)
    refine⟨[],atE p s,?_,?_,Zez,fun h=>absurd h e⟩
    · simp only [Jb,h1,e,decide_false,Bool.not_false,cond_true,Option.bind_some]
    · simp only [Zcd,h2,c1,decide_false,Bool.not_false,cond_true,Option.bind_some]
theorem Zqj {α : Type} {q : α → Bool} : ∀ {l : List α} {k : Nat} {n : Int},n ∈ Zi8 q k l → ∃ i x,l[i]? = some x ∧ n=((k + i : Nat) : Int)
  | [],_,_,h=>by cases h
  | x :: r,k,n,h=>by
    rw [Zi8,List.mem_append] at h
    rcases h with h|h
    · split at h
      · rw [List.mem_singleton] at h;exact⟨0,x,rfl,by simpa using h⟩
      · cases h
    · obtain⟨i,y,h1,h2⟩:=Zqj h;exact⟨i + 1,y,by simpa using h1,by rw [h2];congr 1;omega⟩
def Zwd (ps : List GPage) (l : List Int) : List GPage:=l.filterMap fun n=>(rdI ps n).map Zbj
theorem Zup (ps : List GPage) (l : List Int) : (Zwd ps l).length ≤ l.length:=List.length_filterMap_le ..
theorem Zuq {L : List GPage × Nat → Option ((List GPage × Nat) ⊕ List GPage)} {ps : List GPage} {l : List Int} (hl : ∀ n ∈ l,∃ x,rdI ps n=some x) (hs : l.length * 80 ≤ 140737488355328)
    (h : ∀ (z : List GPage) (i : Nat) (n : Int) (x : GPage),i < l.length → l[i]? = some n → rdI ps n=some x → (z.length + 1) * 80 ≤ 140737488355328 → L (z,i)=some (.inl (z ++ [Zbj x],i + 1))) (h2 : ∀ z,L (z,l.length)=some (.inr z)) :
    Kj L ([],0)=some (Zwd ps l):=by
  have hL:=Zd1 (L:=L) (fun t=>t.2 ≤ l.length ∧ t.1=Zwd ps (l.take t.2)) (fun r=>r=Zwd ps l) (fun t=>l.length - t.2) (fun t hI=>by
    obtain⟨z,i⟩:=t;obtain⟨hi,hz⟩:=hI;simp only at hi hz
    by_cases hlt : i < l.length
    · have hx : l[i]? = some l[i]:=List.getElem?_eq_getElem hlt;have hm:=List.getElem_mem hlt
      generalize l[i]=n at hx hm
      obtain⟨x,hr⟩:=hl n hm;have hn:=Zup ps (l.take i);rw [← hz,List.length_take] at hn;refine .inl ⟨_,h z i n x hlt hx hr (by omega),⟨by simp only;omega,?_⟩,by simp only;omega⟩;simp only;rw [Ziw hx,hz];simp [Zwd,List.filterMap_append,hr]
    · obtain rfl : i=l.length:=by omega
      exact .inr ⟨z,h2 z,by rw [hz,List.take_length]⟩) (s:=([],0)) ⟨Nat.zero_le _,rfl⟩
  obtain⟨_,hL,rfl⟩:=hL;exact hL
theorem Zqk {L : List GPage × Nat → Option ((List GPage × Nat) ⊕ List GPage)} {s : GState} (ok : OkS s)
    (h : ∀ (z : List GPage) (i : Nat) (n : Int) (x : GPage),i < (Zi8 GPage.Dirty 0 s.Pages).length → (Zi8 GPage.Dirty 0 s.Pages)[i]? = some n → rdI s.Pages n=some x → (z.length + 1) * 80 ≤ 140737488355328 → L (z,i)=some (.inl (z ++ [Zbj x],i + 1))) (h2 : ∀ z,L (z,(Zi8 GPage.Dirty 0 s.Pages).length)=some (.inr z)) :
    Kj L ([],0)=some (Zwd s.Pages (Zi8 GPage.Dirty 0 s.Pages)):=
  Zuq (fun n hn=>by
    obtain⟨i,x,h1,rfl⟩:=Zqj hn;exact⟨x,by rw [Nat.zero_add,Zvq];exact h1⟩) (by have:=Zni GPage.Dirty s.Pages 0;have:=ok.f;omega) h h2
def Znj (s : GState) : GState:=⟨s.Id,s.Frame,s.Epoch,s.Procs,s.Ready,s.Timers,s.Up,s.Sems,s.Ports,[]⟩
theorem parts (p : GPlan) {s : GState} (ok : OkS s) : ∃ x l g e,Zbh p s=some (x,l,g,e) ∧ Zd0 p s=some (x,l,g,e.code) ∧ e.place=-1:=by
  obtain⟨l,e,h1,h2,h3,h4⟩:=Ztk p ok;have ha:=Zk1 (p:=p) ok;have hd:=Zok (p:=p) ok
  by_cases he : atE p s=.nil
  · have c0:=To.2 he;have e0 : Jb p s=some (Zi8 GPage.Dirty 0 s.Pages,.nil):=by
      simp only [Jb,hd,he,Zdd _ ok.f,decide_true,Bool.not_true,cond_false,Option.bind_some]
    have k1:=Zqk (L:=Gx s (Zi8 GPage.Dirty 0 s.Pages,.nil)) ok (fun z i n x hi hx hr hz=>by
      have c : (z.length + [(⟨x.Rights,false,x.Data⟩ : GPage)].length) * 80 ≤ 140737488355328:=by simpa using hz
      simp only [Gx,hi,hx,hr,chk,c,Zbj,if_true,decide_true,cond_true,Option.bind_some]) (fun z=>by simp [Gx])
    have k2:=Zqk (L:=Zai s (Zi8 GPage.Dirty 0 s.Pages)) ok (fun z i n x hi hx hr hz=>by
      have c : (z.length + [(⟨x.Rights,false,x.Data⟩ : GPage)].length) * 80 ≤ 140737488355328:=by simpa using hz
      simp only [Zai,hi,hx,hr,chk,c,Zbj,if_true,decide_true,cond_true,Option.bind_some]) (fun z=>by simp [Zai])
    refine⟨Znj s,Zi8 GPage.Dirty 0 s.Pages,Zwd s.Pages (Zi8 GPage.Dirty 0 s.Pages),.nil,?_,?_,rfl⟩
    · simp only [Zbh,e0,k1,Znj,Zib ok,decide_true,Bool.not_true,cond_false,Option.bind_some]
    · simp only [Zd0,ha,c0,k2,Znj,Zk0,Hs ok,Zk2 s ok.f,decide_true,Bool.not_true,cond_false,Option.bind_some]
  · have c1 : ¬ (atE p s).code=0:=fun h=>he (To.1 h)
    have e0 : Jb p s=some ([],atE p s):=by
      simp only [Jb,hd,he,decide_false,Bool.not_false,cond_true,Option.bind_some]
    refine⟨zS,[],[],atE p s,?_,?_,Zez⟩
    · simp only [Zbh,e0,he,zS,decide_false,Bool.not_false,cond_true,Option.bind_some]
    · simp only [Zd0,ha,c1,zS,decide_false,Bool.not_false,cond_true,Option.bind_some]
theorem sinces (p : GPlan) {b s : GState} (okb : OkS b) (ok : OkS s) : ∃ v e,Jq p b s=some (v,e) ∧ Uq p b s=some (v,e.code) ∧ e.place=-1:=by
  have h1:=Zte (p:=p) okb ok;have a1:=Zk1 (p:=p) okb;have a2:=Zk1 (p:=p) ok
  by_cases e1 : atE p b=.nil
  · have c1:=To.2 e1
    by_cases e2 : atE p s=.nil
    · have c2:=To.2 e2;have hl : s.Pages.length=b.Pages.length:=by rw [Zhk e1,Zhk e2]
      have ho : orE (atE p b) (atE p s)=.nil:=by rw [e1,e2];rfl
      obtain⟨x,y,k1,k2,k3⟩:=Zqi (L1:=Xh b s) (L2:=Vz b s) (fun i=>i ≤ s.Pages.length) (fun x y=>(x=.inl () ∧ y=.inl ()) ∨ (x=.inr (false,.nil) ∧ y=.inr (false,0))) (fun i=>s.Pages.length - i) (fun i hi=>by
        by_cases hlt : i < s.Pages.length
        · have hx : s.Pages[i]? = some s.Pages[i]:=List.getElem?_eq_getElem hlt;have hy : b.Pages[i]? = some (b.Pages[i]'(by omega)):=List.getElem?_eq_getElem _
          generalize s.Pages[i]=x at hx
          generalize b.Pages[i]=y at hy
          rcases Bool.eq_false_or_eq_true x.Dirty with d|d
          · exact .inl ⟨i + 1,by simp only [Xh,Wv,hlt,hx,hy,d,decide_true,Bool.not_true,cond_true,cond_false,Option.bind_some],by simp only [Vz,Th,hlt,hx,hy,d,decide_true,Bool.not_true,cond_true,cond_false,Option.bind_some],by omega,by omega⟩
          · by_cases q : x.Data=y.Data
            · exact .inl ⟨i + 1,by simp only [Xh,Wv,hlt,hx,hy,d,q,decide_true,Bool.not_true,Bool.not_false,cond_true,cond_false,Option.bind_some],by simp only [Vz,Th,hlt,hx,hy,d,q,decide_true,Bool.not_true,Bool.not_false,cond_true,cond_false,Option.bind_some],by omega,by omega⟩
            · exact .inr ⟨_,_,by simp only [Xh,Wv,hlt,hx,hy,d,q,decide_true,decide_false,Bool.not_true,Bool.not_false,cond_true,cond_false,Option.bind_some],by simp only [Vz,Th,hlt,hx,hy,d,q,decide_true,decide_false,Bool.not_true,Bool.not_false,cond_true,cond_false,Option.bind_some],.inr ⟨rfl,rfl⟩⟩
        · exact .inr ⟨_,_,by simp only [Xh,hlt,decide_false,cond_false],by simp only [Vz,hlt,decide_false,cond_false],.inl ⟨rfl,rfl⟩⟩) (s:=0) (Nat.zero_le _)
      have w1:=Zdd _ okb.f;have w2:=Zk2 b okb.f
      by_cases d : 0 < (Zi8 GPage.Dirty 0 b.Pages).length
      · exact⟨false,.nil,by simp only [Jq,Yk,h1,ho,w1,d,decide_true,Bool.not_true,cond_true,cond_false,Option.bind_some],by simp only [Uq,Uo,Yb,a1,a2,c1,c2,w2,d,Zk0,decide_true,Bool.not_true,cond_true,cond_false,Option.bind_some],rfl⟩
      · by_cases q : b.Epoch=s.Epoch
        · rcases k3 with ⟨rfl,rfl⟩ | ⟨rfl,rfl⟩
          · exact⟨true,.nil,by simp only [Jq,Yk,h1,ho,w1,d,q,k1,decide_true,decide_false,Bool.not_true,cond_true,cond_false,Option.bind_some],by simp only [Uq,Uo,Yb,a1,a2,c1,c2,w2,d,q,k2,Zk0,decide_true,decide_false,Bool.not_true,cond_true,cond_false,Option.bind_some],rfl⟩
          · exact⟨false,.nil,by simp only [Jq,Yk,h1,ho,w1,d,q,k1,decide_true,decide_false,Bool.not_true,cond_true,cond_false,Option.bind_some],by simp only [Uq,Uo,Yb,a1,a2,c1,c2,w2,d,q,k2,Zk0,decide_true,decide_false,Bool.not_true,cond_true,cond_false,Option.bind_some],rfl⟩
        · exact⟨false,.nil,by simp only [Jq,Yk,h1,ho,w1,d,q,decide_true,decide_false,Bool.not_true,Bool.not_false,cond_true,cond_false,Option.bind_some],by simp only [Uq,Uo,Yb,a1,a2,c1,c2,w2,d,q,Zk0,decide_true,decide_false,Bool.not_true,Bool.not_false,cond_true,cond_false,Option.bind_some],rfl⟩
    · have c2 : ¬ (atE p s).code=0:=fun h=>e2 (To.1 h)
      have ho : orE (atE p b) (atE p s)=atE p s:=by rw [e1];rfl
      exact⟨false,atE p s,by simp only [Jq,h1,ho,e2,decide_false,Bool.not_false,cond_true,Option.bind_some],by simp only [Uq,Yb,a1,a2,c1,c2,decide_true,decide_false,Bool.not_false,cond_true,cond_false,Option.bind_some],Zez⟩
  · have c1 : ¬ (atE p b).code=0:=fun h=>e1 (To.1 h)
    have ho : orE (atE p b) (atE p s)=atE p b:=by unfold orE;rw [if_neg e1]
    exact⟨false,atE p b,by simp only [Jq,h1,ho,e1,decide_false,Bool.not_false,cond_true,Option.bind_some],by simp only [Uq,Yb,a1,c1,decide_true,decide_false,Bool.not_false,cond_true,cond_false,Option.bind_some],Zez⟩
theorem Zwe (p : GPlan) {a b : GState} (oka : OkS a) (okb : OkS b) : ∃ l e,Wj p a b=some (l,e) ∧ Hl p a b=some (l,e.code) ∧ e.place=-1:=by
  have h1:=Zte (p:=p) oka okb;have a1:=Zk1 (p:=p) oka;have a2:=Zk1 (p:=p) okb
  by_cases e1 : atE p a=.nil
  · have c1:=To.2 e1
    by_cases e2 : atE p b=.nil
    · have c2:=To.2 e2;have hl : a.Pages.length=b.Pages.length:=by rw [Zhk e1,Zhk e2]
      have ho : orE (atE p a) (atE p b)=.nil:=by rw [e1,e2];rfl
      have hf:=oka.f;obtain⟨x,y,k1,k2,k3⟩:=Zqi (L1:=Vl a.Pages b.Pages) (L2:=Vm a b) (fun t=>t.2 ≤ a.Pages.length ∧ t.1.length ≤ t.2) (fun x y=>x=y) (fun t=>a.Pages.length - t.2) (fun t hI=>by
        obtain⟨z,i⟩:=t;obtain⟨hi,hz⟩:=hI;simp only at hi hz
        by_cases hlt : i < a.Pages.length
        · have hx : a.Pages[i]? = some a.Pages[i]:=List.getElem?_eq_getElem hlt;have hy : b.Pages[i]? = some (b.Pages[i]'(by omega)):=List.getElem?_eq_getElem _
          generalize a.Pages[i]=x at hx
          generalize b.Pages[i]=y at hy
          by_cases q : x.Data=y.Data
          · exact .inl ⟨(z,i + 1),by simp only [Vl,Hq,hlt,hx,hy,q,decide_true,Bool.not_true,cond_true,cond_false,Option.bind_some],by simp only [Vm,Hr,hlt,hx,hy,q,decide_true,Bool.not_true,cond_true,cond_false,Option.bind_some],⟨by simp only;omega,by simp only;omega⟩,by simp only;omega⟩
          · have c : (z.length + [((i : Nat) : Int)].length) * 8 ≤ 140737488355328:=by simp only [List.length_singleton];omega
            exact .inl ⟨(z ++ [((i : Nat) : Int)],i + 1),by simp only [Vl,Hq,hlt,hx,hy,q,chk,c,if_true,decide_true,decide_false,Bool.not_false,cond_true,Option.bind_some],by simp only [Vm,Hr,hlt,hx,hy,q,chk,c,if_true,decide_true,decide_false,Bool.not_false,cond_true,Option.bind_some],⟨by simp only;omega,by simp;omega⟩,by simp only;omega⟩
        · exact .inr ⟨z,z,by simp only [Vl,hlt,decide_false,cond_false],by simp only [Vm,hlt,decide_false,cond_false],rfl⟩) (s:=([],0)) ⟨Nat.zero_le _,Nat.le_refl _⟩
      subst k3;exact⟨x,.nil,by simp only [Wj,Zdw,h1,ho,hl,k1,decide_true,Bool.not_true,cond_false,Option.bind_some],by simp only [Hl,Wy,a1,a2,c1,c2,k2,Zk0,decide_true,Bool.not_true,cond_true,cond_false,Option.bind_some],rfl⟩
    · have c2 : ¬ (atE p b).code=0:=fun h=>e2 (To.1 h)
      have ho : orE (atE p a) (atE p b)=atE p b:=by rw [e1];rfl
      exact⟨[],atE p b,by simp only [Wj,h1,ho,e2,decide_false,Bool.not_false,cond_true,Option.bind_some],by simp only [Hl,Wy,a1,a2,c1,c2,decide_true,decide_false,Bool.not_false,cond_true,cond_false,Option.bind_some],Zez⟩
  · have c1 : ¬ (atE p a).code=0:=fun h=>e1 (To.1 h)
    have ho : orE (atE p a) (atE p b)=atE p a:=by unfold orE;rw [if_neg e1]
    exact⟨[],atE p a,by simp only [Wj,h1,ho,e1,decide_false,Bool.not_false,cond_true,Option.bind_some],by simp only [Hl,Wy,a1,c1,decide_true,decide_false,Bool.not_false,cond_true,cond_false,Option.bind_some],Zez⟩
def Ztp (x y : GPage) : Bool:=decide (x.Rights=y.Rights) && decide (x.Data=y.Data)
def Zlu (a b : GState) : Bool:=decide (a.Id=b.Id) && (decide (a.Frame=b.Frame) && (decide (a.Procs=b.Procs) && (decide (a.Ready=b.Ready) && (decide (a.Timers=b.Timers) && (decide (a.Up=b.Up) && (decide (a.Sems=b.Sems) && decide (a.Ports=b.Ports)))))))
def Zjl (a b : GState) : Bool:=Zlu a b && (decide (a.Pages.length=b.Pages.length) && (a.Pages.zip b.Pages).all fun p=>Ztp p.1 p.2)
theorem Zpr (a : GState) : Zjl a a=true:=by
  unfold Zjl Zlu;have : ∀ l : List GPage,((l.zip l).all fun p=>Ztp p.1 p.2)=true:=by
    intro l
    induction l with
    | nil=>rfl
    | cons x r ih=>
      have h : Ztp x x=true:=by simp [Ztp]
      simp only [List.zip_cons_cons,List.all_cons,ih,h,Bool.and_self]
  simp only [this,decide_true,Bool.and_self]
theorem Zps (a b : List GProc) : Ys a b=some (decide (a=b)):=by
  by_cases hl : a.length=b.length
  · have h:=Za4 (L:=Jx a b) hl (fun i x y hi hx hy=>by
      simp only [Jx,hi,hx,hy,decide_true,cond_true,Option.bind_some]
      by_cases e : x=y <;> simp [e]) (by simp [Jx])
    simp only [Ys,hl,decide_true,Bool.not_true,cond_false,h,Option.bind_some]
    by_cases e : a=b <;> simp [e]
  · simp only [Ys,hl,decide_false,Bool.not_false,cond_true,Zey hl]
theorem Zom (a b : List GTimer) : Yh a b=some (decide (a=b)):=by
  by_cases hl : a.length=b.length
  · have h:=Za4 (L:=Jr a b) hl (fun i x y hi hx hy=>by
      simp only [Jr,hi,hx,hy,decide_true,cond_true,Option.bind_some]
      by_cases e : x=y <;> simp [e]) (by simp [Jr])
    simp only [Yh,hl,decide_true,Bool.not_true,cond_false,h,Option.bind_some]
    by_cases e : a=b <;> simp [e]
  · simp only [Yh,hl,decide_false,Bool.not_false,cond_true,Zey hl]
theorem Znk (a b : List ByteArray) : Kq a b=some (decide (a=b)):=by
  by_cases hl : a.length=b.length
  · have h:=Za4 (L:=Jg a b) hl (fun i x y hi hx hy=>by
      simp only [Jg,hi,hx,hy,decide_true,cond_true,Option.bind_some]
      by_cases e : x=y <;> simp [e]) (by simp [Jg])
    simp only [Kq,hl,decide_true,Bool.not_true,cond_false,h,Option.bind_some]
    by_cases e : a=b <;> simp [e]
  · simp only [Kq,hl,decide_false,Bool.not_false,cond_true,Zey hl]
theorem Zpt (a b : List Bool) : Yt a b=some (decide (a=b)):=by
  by_cases hl : a.length=b.length
  · have h:=Za4 (L:=Jy a b) hl (fun i x y hi hx hy=>by
      simp only [Jy,hi,hx,hy,decide_true,cond_true,Option.bind_some];cases x <;> cases y <;> simp) (by simp [Jy])
    simp only [Yt,hl,decide_true,Bool.not_true,cond_false,h,Option.bind_some]
    by_cases e : a=b <;> simp [e]
  · simp only [Yt,hl,decide_false,Bool.not_false,cond_true,Zey hl]
theorem Zql {x y : GPort} : x=y ↔ x.Age=y.Age ∧ x.Msgs=y.Msgs:=by
  cases x;cases y;simp only [GPort.mk.injEq];exact And.comm
theorem Zpu (a b : List GPort) : Js a b (fun x0 x1=>We x0 x1)=some (decide (a=b)):=by
  by_cases hl : a.length=b.length
  · have h:=Za4 (L:=Xr a b (fun x0 x1=>We x0 x1)) hl (fun i x y hi hx hy=>by
      simp only [Xr,We,Znk,hi,hx,hy,decide_true,cond_true,Option.bind_some]
      by_cases e1 : x.Age=y.Age
      · by_cases e2 : x.Msgs=y.Msgs
        · have : x=y:=Zql.2 ⟨e1,e2⟩;simp [e1,e2,this]
        · have : ¬ x=y:=fun h=>e2 (by rw [h])
          simp [e1,e2,this]
      · have : ¬ x=y:=fun h=>e1 (by rw [h])
        simp [e1,this]) (by simp [Xr])
    simp only [Js,hl,decide_true,Bool.not_true,cond_false,h,Option.bind_some]
    by_cases e : a=b <;> simp [e]
  · simp only [Js,hl,decide_false,Bool.not_false,cond_true,Zey hl]
theorem Zhf (a b : GState) : Zbp a b=some (Zlu a b):=by
  simp only [Zbp,Zps,Zq5,Zom,Zpt,Zpu,Option.bind_some];unfold Zlu
  by_cases h1 : a.Id=b.Id <;> by_cases h2 : a.Frame=b.Frame <;> by_cases h3 : a.Procs=b.Procs <;> by_cases h4 : a.Ready=b.Ready <;> by_cases h5 : a.Timers=b.Timers <;> by_cases h6 : a.Up=b.Up <;> by_cases h7 : a.Sems=b.Sems <;> simp only [h1,h2,h3,h4,h5,h6,h7,decide_true,decide_false,cond_true,cond_false,Bool.true_and,Bool.false_and]
theorem Zon (a b : GState) : Hg a b=some (Zjl a b):=by
  unfold Zjl
  by_cases hr : Zlu a b=true
  · by_cases hl : a.Pages.length=b.Pages.length
    · have h:=Zku (L:=Xs a.Pages b.Pages (fun x0 x1=>Gg x0 x1)) Ztp hl (fun i x y hi hx hy=>by
        simp only [Xs,Gg,Ztp,hi,hx,hy,decide_true,cond_true,Option.bind_some]
        by_cases e1 : x.Rights=y.Rights <;> by_cases e2 : x.Data=y.Data <;> simp [e1,e2]) (by simp [Xs])
      simp only [Hg,Ya,Zhf,hr,hl,h,decide_true,Bool.not_true,cond_true,cond_false,Option.bind_some,Bool.true_and];cases (a.Pages.zip b.Pages).all fun p=>Ztp p.1 p.2 <;> rfl
    · simp only [Hg,Ya,Zhf,hr,hl,decide_false,Bool.not_false,cond_true,Option.bind_some,Bool.true_and,Bool.false_and]
  · have hr : Zlu a b=false:=Bool.eq_false_iff.2 hr;simp only [Hg,Zhf,hr,cond_false,Option.bind_some,Bool.false_and]
theorem Ztl (a b : List Int) : Zae a b=some (decide (a=b)):=by
  by_cases hl : a.length=b.length
  · have h:=Za4 (L:=Vu a b) hl (fun i x y hi hx hy=>by
      simp only [Vu,hi,hx,hy,decide_true,cond_true,Option.bind_some]
      by_cases e : x=y <;> simp [e]) (by simp [Vu])
    simp only [Zae,hl,decide_true,Bool.not_true,cond_false,h,Option.bind_some]
    by_cases e : a=b <;> simp [e]
  · simp only [Zae,hl,decide_false,Bool.not_false,cond_true,Zey hl]
theorem Zk4 (a b : GState) : Vi a b=some (Zlu a b):=by
  unfold Zlu
  by_cases h1 : ¬ a.Id=b.Id
  · simp only [Vi,h1,decide_false,Bool.not_false,Bool.true_or,cond_true,Bool.false_and]
  replace h1:=Decidable.not_not.1 h1
  by_cases h2 : ¬ a.Frame=b.Frame
  · simp only [Vi,h1,h2,decide_true,decide_false,Bool.not_false,Bool.not_true,Bool.true_or,Bool.or_true,cond_true,Bool.false_and,Bool.true_and]
  replace h2:=Decidable.not_not.1 h2
  by_cases l3 : ¬ a.Procs.length=b.Procs.length
  · have:=Zey l3;simp only [Vi,l3,this,decide_false,Bool.not_false,Bool.true_or,Bool.or_true,cond_true,Bool.false_and,Bool.and_false]
  replace l3:=Decidable.not_not.1 l3
  by_cases l4 : ¬ a.Timers.length=b.Timers.length
  · have:=Zey l4;simp only [Vi,l4,this,decide_false,Bool.not_false,Bool.true_or,Bool.or_true,cond_true,Bool.false_and,Bool.and_false]
  replace l4:=Decidable.not_not.1 l4
  by_cases l5 : ¬ a.Up.length=b.Up.length
  · have:=Zey l5;simp only [Vi,l5,this,decide_false,Bool.not_false,Bool.true_or,Bool.or_true,cond_true,Bool.false_and,Bool.and_false]
  replace l5:=Decidable.not_not.1 l5
  by_cases l6 : ¬ a.Ports.length=b.Ports.length
  · have:=Zey l6;simp only [Vi,l6,this,decide_false,Bool.not_false,Bool.true_or,Bool.or_true,cond_true,Bool.false_and,Bool.and_false]
  replace l6:=Decidable.not_not.1 l6;have k1:=Za4 (L:=Vb a b) l3 (fun i x y hi hx hy=>by
    simp only [Vb,hi,hx,hy,decide_true,cond_true,Option.bind_some]
    by_cases e : x=y <;> simp [e]) (by simp [Vb])
  have k2:=Za4 (L:=Va a b) l4 (fun i x y hi hx hy=>by
    simp only [Va,hi,hx,hy,decide_true,cond_true,Option.bind_some]
    by_cases e : x=y <;> simp [e]) (by simp [Va])
  have k3:=Za4 (L:=Yz a b) l5 (fun i x y hi hx hy=>by
    simp only [Yz,hi,hx,hy,decide_true,cond_true,Option.bind_some];cases x <;> cases y <;> simp) (by simp [Yz])
  have k4:=Za4 (L:=Yy a b) l6 (fun i x y hi hx hy=>by
    simp only [Yy,Zar,hi,hx,hy,decide_true,cond_true,Option.bind_some]
    by_cases e1 : x.Age=y.Age
    · by_cases e2 : x.Msgs.length=y.Msgs.length
      · have k:=Za4 (L:=Yx a b i) e2 (fun j m n hj hm hn=>by
          simp only [Yx,hx,hy,hj,hm,hn,decide_true,cond_true,Option.bind_some]
          by_cases e : m=n <;> simp [e]) (by simp [Yx,hx])
        by_cases e3 : x.Msgs=y.Msgs
        · have : x=y:=Zql.2 ⟨e1,e3⟩;simp [e1,e3,this,k]
        · have : ¬ x=y:=fun h=>e3 (by rw [h])
          simp [e1,e2,e3,this,k]
      · have : ¬ x=y:=fun h=>e2 (by rw [h])
        simp [e1,e2,this]
    · have : ¬ x=y:=fun h=>e1 (by rw [h])
      simp [e1,this]) (by simp [Yy])
  simp only [Vi,h1,h2,l3,l4,l5,l6,k1,k2,k3,k4,Ztl,decide_true,Bool.not_true,Bool.or_self,cond_false,Option.bind_some,Bool.true_and]
  by_cases h3 : a.Procs=b.Procs <;> by_cases h4 : a.Ready=b.Ready <;> by_cases h5 : a.Timers=b.Timers <;> by_cases h6 : a.Up=b.Up <;> by_cases h7 : a.Sems=b.Sems <;> by_cases h8 : a.Ports=b.Ports <;> simp [h3,h4,h5,h6,h7,h8]
theorem Zrk (a b : GState) : Za8 a b=some (Zjl a b):=by
  unfold Zjl
  by_cases hr : Zlu a b=true
  · by_cases hl : a.Pages.length=b.Pages.length
    · have h:=Zku (L:=Ti a b) Ztp hl (fun i x y hi hx hy=>by
        simp only [Ti,Zcn,Ztp,hi,hx,hy,decide_true,cond_true,Option.bind_some]
        by_cases e1 : x.Rights=y.Rights <;> by_cases e2 : x.Data=y.Data <;> simp [e1,e2]) (by simp [Ti])
      simp only [Za8,Tj,Zk4,hr,hl,h,decide_true,Bool.not_true,cond_true,cond_false,Option.bind_some,Bool.true_and];cases (a.Pages.zip b.Pages).all fun p=>Ztp p.1 p.2 <;> rfl
    · simp only [Za8,Tj,Zk4,hr,hl,decide_false,Bool.not_true,Bool.not_false,cond_true,cond_false,Option.bind_some,Bool.true_and,Bool.false_and]
  · have hr : Zlu a b=false:=Bool.eq_false_iff.2 hr;simp only [Za8,Tj,Zk4,hr,Bool.not_false,cond_true,Option.bind_some,Bool.false_and]
theorem Zjm (a b : GState) : Hh a b=some (Zjl a b):=by simp only [Hh,Zon,Option.bind_some]
theorem Zgd (l : List Int) : Vk l l=some true:=by
  have h:=Zb7 (L:=Yu l l) (l:=l) (fun i x hi hx=>by
    simp only [Yu,hi,hx,decide_true,cond_true,Option.bind_some,Bool.not_true,cond_false]) (by simp [Yu])
  simp only [Vk,h,decide_true,Bool.not_true,cond_false,Option.bind_some]
theorem Zlv (l : List GPage) : Gy l l=some true:=by
  have h:=Zb7 (L:=Yi l l) (l:=l) (fun i x hi hx=>by
    simp only [Yi,hi,hx,decide_true,cond_true,Option.bind_some,Bool.not_true,cond_false]) (by simp [Yi])
  simp only [Gy,h,decide_true,Bool.not_true,cond_false,Option.bind_some]
end Go.Proofs.YtjekfpnpfllaoaaGreatDoor
set_option linter.unusedVariables false
set_option linter.unusedSimpArgs false
set_option linter.unusedSectionVars false
namespace Go.Proofs.YtjekfpnpfllaoaaGreatDoor
open Go Go.RowKit
theorem etaS (m : GState) : (⟨m.Id,m.Frame,m.Epoch,m.Procs,m.Ready,m.Timers,m.Up,m.Sems,m.Ports,m.Pages⟩ : GState)=m:=rfl
def smP : GPlan:=⟨0,false,[⟨3,⟨#[]⟩⟩,⟨3,⟨#[]⟩⟩,⟨3,⟨#[]⟩⟩],[⟨0,0,false⟩],[],0,[]⟩
def smD : Vector UInt8 64:=(cpyV (Vector.replicate 64 0) (⟨#[]⟩ : ByteArray)).setIfInBounds ((0 : Int).toNat) (Zb9 2)
def smS : GState:=⟨0,9,4,(Zhe smP).Procs,(Zhe smP).Ready,[],[],[],[],[Zhd ⟨3,⟨#[]⟩⟩,⟨3,true,smD⟩,Zhd ⟨3,⟨#[]⟩⟩]⟩
def smB : GState:=⟨0,0,4,(Zhe smP).Procs,(Zhe smP).Ready,[],[],[],[],[Zhd ⟨3,⟨#[]⟩⟩,Zhd ⟨3,⟨#[]⟩⟩,Zhd ⟨3,⟨#[]⟩⟩]⟩
theorem Ztm : Zex smP=.nil:=by decide +kernel
theorem Zwf : Zbq=some (smP,smS):=by
  have h:=Zqg Ztm;have e : Zhe smP=⟨0,0,0,(Zhe smP).Procs,(Zhe smP).Ready,[],[],[],[],[Zhd ⟨3,⟨#[]⟩⟩,Zhd ⟨3,⟨#[]⟩⟩,Zhd ⟨3,⟨#[]⟩⟩]⟩:=rfl;unfold Zbq;rw [show (⟨0,false,[(⟨3,⟨#[]⟩⟩ : GPagePlan),(⟨3,⟨#[]⟩⟩ : GPagePlan),(⟨3,⟨#[]⟩⟩ : GPagePlan)],[(⟨0,0,false⟩ : GProcPlan)],([] : List GPortPlan),0,([] : List Int)⟩ : GPlan)=smP from rfl,h]
  decide +kernel
theorem Zqm {s : GState} (h : s.Procs.length ≤ 9 ∧ s.Ready.length ≤ 9 ∧ s.Timers.length ≤ 9 ∧ s.Up.length ≤ 9 ∧ s.Sems.length ≤ 9 ∧ s.Pages.length ≤ 9 ∧ s.Ports=[]) : OkS s:=by
  obtain⟨h1,h2,h3,h4,h5,h6,h7⟩:=h;exact⟨by omega,by omega,by omega,by omega,by omega,by omega,by rw [h7];decide,by rw [h7];intro x hx;cases hx⟩
theorem Zpv : OkS smS:=Zqm (by decide +kernel)
theorem Zwg : OkS smB:=Zqm (by decide +kernel)
theorem okSmM : OkS (mkS smS):=Zqm (by decide +kernel)
theorem okSmR : OkS (Znj smS):=Zqm (by decide +kernel)
theorem Zwh : atE smP smS=.nil:=by decide +kernel
theorem atSmB : atE smP smB=.nil:=by decide +kernel
theorem atSmM : atE smP (mkS smS)=.nil:=by decide +kernel
theorem markSm : Vx smP smS=some (mkS smS,.nil):=by
  rw [Zk3 Zpv,Zwh,if_pos rfl,if_neg (by decide +kernel)]
theorem Zwi : Jb smP smS=some ([1],.nil):=by
  have h1:=Zok (p:=smP) Zpv;rw [Zwh] at h1;have h2 : Zi8 GPage.Dirty 0 smS.Pages=[1]:=by decide +kernel
  simp only [Jb,h1,Zdd _ Zpv.f,h2,decide_true,Bool.not_true,cond_false,Option.bind_some]
theorem Zoo : Vw smB.Pages=some []:=by
  rw [Zdd _ Zwg.f];decide +kernel
theorem Zwj : Jq smP smB smS=some (true,.nil):=by
  have h1:=Zte (p:=smP) Zwg Zpv;rw [atSmB,Zwh,show orE ErrM.nil ErrM.nil=ErrM.nil from rfl] at h1;have l0 : Xh smB smS 0=some (.inl 1):=by decide +kernel
  have l1 : Xh smB smS 1=some (.inl 2):=by decide +kernel
  have l2 : Xh smB smS 2=some (.inl 3):=by decide +kernel
  have l3 : Xh smB smS 3=some (.inr (.inl ())):=by decide +kernel
  have hl : Kj (Xh smB smS) 0=some (.inl ()):=(Uu l0).trans ((Uu l1).trans ((Uu l2).trans (Wl l3)));have he : smB.Epoch=smS.Epoch:=rfl;have h0 : ¬ (0 < ([] : List Int).length):=by decide
  simp only [Jq,Yk,h1,Zoo,h0,he,hl,decide_true,decide_false,Bool.not_true,cond_false,Option.bind_some]
theorem laySm : Zec smP smB (Znj smS) [1] [⟨3,false,smD⟩]=some (mkS smS,.nil):=by
  have h1:=Zok (p:=smP) Zwg;rw [atSmB] at h1;have he : (Znj smS).Epoch=smB.Epoch:=rfl;have hm : ¬ (Znj smS).Epoch=2147483647:=by decide +kernel
  have h0 : ¬ (0 < ([] : List Int).length):=by decide
  have f0 : Gd smP [1] [⟨3,false,smD⟩] (-1,0)=some (.inl (1,1)):=by decide +kernel
  have f1 : Gd smP [1] [⟨3,false,smD⟩] (1,1)=some (.inr (.inl ())):=by decide +kernel
  have hf : Zeb smP (Znj smS) [1] [⟨3,false,smD⟩]=some true:=by
    have : Kj (Gd smP [1] [⟨3,false,smD⟩]) (-1,0)=some (.inl ()):=(Uu f0).trans (Wl f1);have c : ((!decide (([1] : List Int).length=([⟨3,false,smD⟩] : List GPage).length)) || decide (0 < (Znj smS).Pages.length))=false:=by decide +kernel
    simp only [Zeb,c,this,cond_false,Option.bind_some]
  have g0 : Hw [1] [⟨3,false,smD⟩] (0,smB.Pages)=some (.inl (1,(mkS smS).Pages)):=by decide +kernel
  have g1 : Hw [1] [⟨3,false,smD⟩] (1,(mkS smS).Pages)=some (.inr (mkS smS).Pages):=by decide +kernel
  have hg : Kj (Hw [1] [⟨3,false,smD⟩]) (0,smB.Pages)=some (mkS smS).Pages:=(Uu g0).trans (Wl g1);have hr:=Zmf smP (mkS smS) okSmM.sm.1;rw [Ztd,if_neg (fun c=>c Ztm),(Ztf atSmM).2] at hr;have hc : Za6 smB.Pages=some smB.Pages:=by
    have c : (([] : List GPage).length + smB.Pages.length) * 80 ≤ 140737488355328:=by decide +kernel
    simp only [Za6,Kh,chk,c,if_true,List.nil_append,Option.bind_some]
  have hx : (⟨(Znj smS).Id,(Znj smS).Frame,IntKind.i64.wrap ((Znj smS).Epoch + 1),(Znj smS).Procs,(Znj smS).Ready,(Znj smS).Timers,(Znj smS).Up,(Znj smS).Sems,(Znj smS).Ports,(mkS smS).Pages⟩ : GState)=mkS smS:=rfl;simp only [Zec,Zcj,h1,Zoo,h0,he.symm,hm,hf,Zib okSmR,hc,hg,hx,hr,decide_true,decide_false,Bool.not_true,cond_false,Option.bind_some]
theorem Zpw : Zbr=some true:=by
  have c1 : (mkS smS).Epoch=5:=by decide +kernel
  have c2 : (mkS smS).Pages.length=3:=by decide +kernel
  have c3 : (mkS smS).Pages[1]? = some (⟨3,false,smD⟩ : GPage):=by decide +kernel
  have c4 : rdV smD 0=some (Zb9 2):=by decide +kernel
  have c5 : ((Zb9 2).toNat : Int)=2:=by decide
  have c6 : (mkS smS).Frame=9:=by decide +kernel
  have c7 : ([1] : List Int).length=1:=rfl;have c8 : ([1] : List Int)[0]? = some 1:=rfl;have c9 : Zjl smS (mkS smS)=true:=by decide +kernel
  have d1 : smS.Pages[1]? = some (⟨3,true,smD⟩ : GPage):=by decide +kernel
  have hb : (⟨(Zhe smP).Id,(Zhe smP).Frame,4,(Zhe smP).Procs,(Zhe smP).Ready,(Zhe smP).Timers,(Zhe smP).Up,(Zhe smP).Sems,(Zhe smP).Ports,(Zhe smP).Pages⟩ : GState)=smB:=rfl;have hq : (⟨(mkS smS).Id,9,5,(mkS smS).Procs,(mkS smS).Ready,(mkS smS).Timers,(mkS smS).Up,(mkS smS).Sems,(mkS smS).Ports,(mkS smS).Pages⟩ : GState)=mkS smS:=rfl;have hz : (⟨smS.Id,smS.Frame,smS.Epoch,smS.Procs,smS.Ready,smS.Timers,smS.Up,smS.Sems,smS.Ports,[]⟩ : GState)=Znj smS:=rfl;simp only [Zbr,Zwf,Hs Zpv,markSm,Zaz,c1,c2,c3,c4,c5,c6,decide_true,Bool.not_true,cond_false,Option.bind_some];simp only [Zay,Hs Zpv,Zwi,c7,c8,hq,Zjm,c9,decide_true,Bool.not_true,cond_false,Option.bind_some];simp only [Zax,Zqg Ztm,hb,Zwj,Hs Zpv,d1,hz,laySm,hq,Zgc,decide_true,Bool.not_true,cond_false,cond_true,Option.bind_some]
theorem Zhg {e : ErrM} (hp : e.place=-1) : Vy e e.code=some true:=same17 rfl hp
theorem Zjs (x : GL17Case) (hP : Zpd x.P) (okA : OkS x.A) (okB : OkS x.B) : Tn x=some true:=by
  obtain⟨m1,e1,a1,b1,p1⟩:=marks x.P okA;obtain⟨l2,e2,a2,b2,p2,_⟩:=Ztk x.P okA;obtain⟨s3,l3,g3,e3,a3,b3,p3⟩:=parts x.P okA;obtain⟨v4,e4,a4,b4,p4⟩:=sinces x.P okB okA;obtain⟨l5,e5,a5,b5,p5⟩:=Zwe x.P okA okB;simp only [Tn,Zpw,Zhc x.P hP,Hs okA,a1,Bool.not_true,cond_false,Option.bind_some];simp only [Wq,b1,Zhg p1,etaS,Zgc,Bool.not_true,cond_false,Option.bind_some];simp only [Uh,Zhc x.P hP,Hs okA,a2,b2,Zhg p2,Zgd,Bool.not_true,cond_false,Option.bind_some];simp only [Ug,Zhc x.P hP,Hs okA,a3,Bool.not_true,cond_false,Option.bind_some];simp only [Uf,b3,Zhg p3,etaS,Zgc,Zgd,Zlv,Bool.not_true,cond_false,Option.bind_some];simp only [Ue,Zhc x.P hP,Hs okA,Hs okB,a4,b4,Zhg p4,beq_self_eq_true,Bool.not_true,cond_false,Option.bind_some];simp only [Ud,Zhc x.P hP,Hs okA,Hs okB,a5,b5,Zhg p5,Zgd,Zjm,Zrk,Zpr,beq_self_eq_true,Bool.not_true,cond_false,cond_true,Option.bind_some]
end Go.Proofs.YtjekfpnpfllaoaaGreatDoor
