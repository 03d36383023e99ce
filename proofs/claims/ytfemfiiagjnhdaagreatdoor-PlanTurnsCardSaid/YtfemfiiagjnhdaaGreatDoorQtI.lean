/- Part of a claim, shortened by a program from its texts: PlanLPt, WireLPt, CurLPt, PlanKPt, SeeLPt, SameKPt, CrcLPt, ReadLPt, TurnLPt. -/
import Derived.Test.YtfemfiiagjnhdaaGreatDoorQtD
set_option linter.unusedVariables false
set_option linter.unusedSimpArgs false
set_option linter.unusedSectionVars false
namespace Go.Proofs.YtfemfiiagjnhdaaGreatDoor
open Go Go.RowKit
section
variable {α ε σ ρ : Type}
def Ju (f : Nat → α → Option ε) : Nat → List α → Option ε
  | _,[]=>none
  | k,x :: r=>match f k x with
    | some e=>some e
    | none=>Ju f (k + 1) r
theorem Zao {ε' : Type} {f : Nat → α → Option ε} {g : Nat → α → Option ε'} {m : ε → ε'} : ∀ (l : List α) (k : Nat),(∀ i x,l[i]? = some x → g (k + i) x=(f (k + i) x).map m) → Ju g k l=(Ju f k l).map m
  | [],_,_=>rfl
  | x :: r,k,h=>by
    have h0 : g k x=(f k x).map m:=h 0 x rfl
    have h1:=Zao (m:=m) r (k + 1) fun i y hy=>(show k + (i + 1)=k + 1 + i by omega) ▸ h (i + 1) y (by simpa using hy)
    rw [Ju,Ju,h0,h1]
    cases f k x <;> rfl
def fin (o : Option ε) : Unit ⊕ ε:=match o with
  | none=>.inl ()
  | some e=>.inr e
def nxt (s : σ) (o : Option ε) : σ ⊕ (Unit ⊕ ε):=match o with
  | none=>.inl s
  | some e=>.inr (.inr e)
theorem Tv (s : σ) (e : ε) : nxt s (some e)=.inr (.inr e):=rfl
theorem Zbj (s : σ) : nxt s (none : Option ε)=.inl s:=rfl
theorem Zg3 (s : σ) (c : Prop) [Decidable c] (a b : Option ε) : nxt s (if c then a else b)=if c then nxt s a else nxt s b:=by split <;> rfl
theorem Ua {L : Nat → Option (Nat ⊕ (Unit ⊕ ε))} {l : List α} {f : Nat → α → Option ε}
    (h : ∀ i x,i < l.length → l[i]? = some x → L i=some (nxt (i + 1) (f i x))) (h2 : L l.length=some (.inr (.inl ()))) :
    Ur L 0=some (fin (Ju f 0 l)):=by
  have key : ∀ m k,k + m=l.length → Ur L k=some (fin (Ju f k (l.drop k))):=by
    intro m
    induction m with
    | zero=>
      intro k hk
      obtain rfl : k=l.length:=by omega
      rw [Wj h2,List.drop_length];rfl
    | succ m ih=>
      intro k hk
      have hlt : k < l.length:=by omega
      have hx : l[k]? = some l[k]:=List.getElem?_eq_getElem hlt
      have hd : l.drop k=l[k] :: l.drop (k + 1):=List.drop_eq_getElem_cons hlt
      have hs:=h k _ hlt hx
      rw [hd]
      cases hf : f k l[k] with
      | none=>rw [hf] at hs;rw [Ya hs,ih (k + 1) (by omega),Ju,hf]
      | some e=>rw [hf] at hs;rw [Wj hs,Ju,hf];rfl
  simpa using key l.length 0 (by omega)
theorem Zew {L : σ × Nat → Option ((σ × Nat) ⊕ σ)} {l : List α} {g : σ → α → σ} {I : σ → Nat → Prop} {z : σ} (h0 : I z 0)
    (h : ∀ i x z,i < l.length → l[i]? = some x → I z i → L (z,i)=some (.inl (g z x,i + 1)) ∧ I (g z x) (i + 1)) (h2 : ∀ z,I z l.length → L (z,l.length)=some (.inr z)) :
    Ur L (z,0)=some (l.foldl g z) ∧ I (l.foldl g z) l.length:=by
  have key : ∀ m k z,k + m=l.length → I z k → Ur L (z,k)=some ((l.drop k).foldl g z) ∧ I ((l.drop k).foldl g z) l.length:=by
    intro m
    induction m with
    | zero=>
      intro k z hk hI
      obtain rfl : k=l.length:=by omega
      rw [Wj (h2 z hI),List.drop_length];exact⟨rfl,hI⟩
    | succ m ih=>
      intro k z hk hI
      have hlt : k < l.length:=by omega
      have hx : l[k]? = some l[k]:=List.getElem?_eq_getElem hlt
      have hd : l.drop k=l[k] :: l.drop (k + 1):=List.drop_eq_getElem_cons hlt
      have hs:=h k _ z hlt hx hI
      rw [hd,Ya hs.1,List.foldl_cons]
      exact ih (k + 1) _ (by omega) hs.2
  simpa using key l.length 0 z (by omega) h0
end
theorem cRange : (ErrM.v Jg).code=4:=by decide
theorem cNil : ErrM.nil.code=0:=rfl
theorem cPl (p : Int) (g : Nat) : (ErrM.pl p g).code=(ErrM.v g).code:=rfl
theorem pPl (p : Int) (g : Nat) : (ErrM.pl p g).place=p:=rfl
theorem Zc2 {e : ErrM} : e.code=0 ↔ e=.nil:=by
  cases e with
  | nil=>simp [cNil]
  | v g=>simp only [ErrM.code,ErrM.g?,Znm];constructor <;> intro h <;> first | omega | cases h
  | pl p g=>simp only [ErrM.code,ErrM.g?,Znm];constructor <;> intro h <;> first | omega | cases h
def Zdm (p : GPortPlan) : ErrM:=
  if p.Kind < 1 ∨ 4 < p.Kind then .v Zgi
  else if p.Size < 1 ∨ 32 < p.Size then .v Hk
  else if p.Depth < 1 ∨ (if 3 ≤ p.Kind then 8 else 1) < p.Depth ∨ p.Refresh < 0 ∨ (if p.Kind=1 then 255 else 0) < p.Refresh then .v Jg
  else .nil
theorem Zb1 (p : GPortPlan) : Yd p=some (Zdm p):=by
  have hk : (p.Kind < 1 ∨ 4 < p.Kind) ∨ p.Kind=1 ∨ p.Kind=2 ∨ p.Kind=3 ∨ p.Kind=4:=by omega
  rcases hk with h|h|h|h|h
  all_goals
    unfold Yd Vj Vi Vh Gp Zat Un Zdm
    first
    | (have h1 : ¬ p.Kind=1 := by omega
       have h2 : ¬ p.Kind=2:=by omega
       have h3 : ¬ p.Kind=3:=by omega
       have h4 : ¬ p.Kind=4:=by omega
       simp [h1,h2,h3,h4,h])
    | (simp [h,Bool.cond_eq_ite];repeat' split
       all_goals first | rfl | omega | simp_all)
theorem Zc3 (p : GPortPlan) : Va p=some (Zdm p).code:=by
  have hk : (p.Kind < 1 ∨ 4 < p.Kind) ∨ p.Kind=1 ∨ p.Kind=2 ∨ p.Kind=3 ∨ p.Kind=4:=by omega
  rcases hk with h|h|h|h|h
  all_goals
    unfold Va Zdm
    simp [h,Bool.cond_eq_ite]
    try (repeat' split
         all_goals first | rfl | omega | (simp_all;omega))
def Zex (i : Nat) (x : GPagePlan) : Option ErrM:=if x.Rights < 0 ∨ 7 < x.Rights then some (.pl i Jg) else if 64 < x.Init.size then some (.pl i Yu) else none
def orN (o : Option ErrM) : ErrM:=o.getD .nil
def Zax (p : GPlan) : ErrM:=if p.Pages.length < 1 ∨ 32 < p.Pages.length then .v Hk else orN (Ju Zex 0 p.Pages)
theorem Zi9 (i : Int) (g : Nat) : Gx i (.v g)=some (.pl i g):=rfl
theorem Zkp (p : GPlan) : Yv p=some (Zax p):=by
  have h:=Ua (L:=Jb p) (l:=p.Pages) (f:=Zex) (fun i x hi hx=>by
    simp only [Jb,hi,hx,decide_true,cond_true,Option.bind_some,Zi9,Bool.cond_eq_ite,Bool.or_eq_true,decide_eq_true_eq,Zex,Zg3,Tv,Zbj]
    repeat' split
    all_goals first | rfl | (simp_all;done) | omega) (by simp [Jb])
  simp only [Yv,h,Zax,Option.bind_some,Bool.cond_eq_ite,Bool.or_eq_true,decide_eq_true_eq]
  cases Ju Zex 0 p.Pages <;> (split <;> rfl)
def Zey (n : Nat) (i : Nat) (x : GProcPlan) : Option ErrM:=if x.Entry < 0 ∨ IntKind.i64.wrap (64 * (n : Int)) ≤ x.Entry ∨ Int.tmod x.Entry 4 ≠ 0 ∨ x.Prio < 0 ∨ 255 < x.Prio then some (.pl i Jg) else none
def Zay (p : GPlan) : ErrM:=if p.Procs.length < 1 ∨ 8 < p.Procs.length then .v Hk else orN (Ju (Zey p.Pages.length) 0 p.Procs)
theorem Zkq (p : GPlan) : Yw p=some (Zay p):=by
  have h:=Ua (L:=Jc p) (l:=p.Procs) (f:=Zey p.Pages.length) (fun i x hi hx=>by
    simp only [Jc,Yq,hi,hx,decide_true,cond_true,Option.bind_some,Zi9,Bool.cond_eq_ite,decide_eq_true_eq,Zey,Zg3,Tv,Zbj,Bool.not_eq_true',decide_eq_false_iff_not]
    repeat' split
    all_goals first | rfl | omega | (simp_all;done) | (simp_all;omega)) (by simp [Jc])
  simp only [Yw,h,Zay,Option.bind_some,Bool.cond_eq_ite,Bool.or_eq_true,decide_eq_true_eq]
  cases Ju (Zey p.Pages.length) 0 p.Procs <;> (split <;> rfl)
def Tm (i : Nat) (x : GPortPlan) : Option ErrM:=match Zdm x with
  | .v g=>some (.pl i g)
  | _=>none
theorem Zav (x : GPortPlan) : Zdm x=.nil ∨ ∃ g,Zdm x=.v g:=by
  unfold Zdm
  repeat' split
  all_goals first | exact .inl rfl | exact .inr ⟨_,rfl⟩
def Zbf (p : GPlan) : ErrM:=if 8 < p.Ports.length then .v Hk else orN (Ju Tm 0 p.Ports)
def Zja (i : Nat) (x : Int) : Option ErrM:=if x < 0 ∨ 255 < x then some (.pl i Jg) else none
def Tn (p : GPlan) : ErrM:=if p.Events < 0 ∨ 8 < p.Events then .v Jg else if 8 < p.Sems.length then .v Hk else orN (Ju Zja 0 p.Sems)
def Zjb (x : GPortPlan) : Int:=if Zdm x ≠ .nil then 0 else if x.Kind=2 ∨ x.Kind=4 then 2 else IntKind.i64.wrap (2 + IntKind.i64.wrap (x.Depth * IntKind.i64.wrap (1 + x.Size)))
def Zb2 (p : GPlan) : Int:=p.Ports.foldl (fun z x=>IntKind.i64.wrap (z + IntKind.i64.wrap (3 + Zjb x))) (IntKind.i64.wrap ((IntKind.i64.wrap ((IntKind.i64.wrap ((IntKind.i64.wrap (58 + (IntKind.i64.wrap (76 * ((p.Procs.length : Nat) : Int))))) + (IntKind.i64.wrap (68 * ((p.Pages.length : Nat) : Int))))) + p.Events)) + ((p.Sems.length : Nat) : Int)))
theorem Zma (x : GPortPlan) : ∃ e,Ta x=some (Zjb x,e):=by
  simp only [Ta,Zb1,Option.bind_some,Zjb,Un,Bool.cond_eq_ite,Bool.not_eq_true',decide_eq_false_iff_not,Bool.or_eq_true,decide_eq_true_eq]
  repeat' split
  all_goals first | exact⟨_,rfl⟩ | (simp_all;done)
theorem Zn2 (x : GPortPlan) : ∃ e,Zak x=some (Zjb x,e):=by
  simp only [Zak,Zc3,Option.bind_some,Zjb,Bool.cond_eq_ite,Bool.not_eq_true',decide_eq_false_iff_not,Zc2,decide_eq_true_eq]
  by_cases h : Zdm x=.nil
  · simp only [h,not_true_eq_false,if_false,ne_eq]
    have hk : 1 ≤ x.Kind ∧ x.Kind ≤ 4 ∧ 1 ≤ x.Depth ∧ (x.Kind ≤ 2 → x.Depth=1) ∧ 1 ≤ x.Size ∧ x.Size ≤ 32:=by
      unfold Zdm at h
      repeat' split at h
      all_goals first | (cases h;done) | omega
    repeat' split
    all_goals first | (exact⟨_,rfl⟩) | omega | skip
    have h1 : x.Depth=1:=by omega
    refine⟨0,?_⟩
    rw [h1,Int.one_mul]
    congr 2
    have e1 : IntKind.i64.wrap (1 + x.Size)=1 + x.Size:=Xa ⟨by omega,by omega⟩
    rw [e1,e1]
    congr 1
    omega
  · simp only [h,not_false_eq_true,if_true,ne_eq]
    exact⟨_,rfl⟩
theorem Zfy (p : GPlan) : Uo p=some (Zb2 p):=by
  have h:=Zew (L:=Yx p) (l:=p.Ports) (g:=fun z x=>IntKind.i64.wrap (z + IntKind.i64.wrap (3 + Zjb x))) (I:=fun _ _=>True)
    (z:=IntKind.i64.wrap ((IntKind.i64.wrap ((IntKind.i64.wrap ((IntKind.i64.wrap (58 + (IntKind.i64.wrap (76 * ((p.Procs.length : Nat) : Int))))) + (IntKind.i64.wrap (68 * ((p.Pages.length : Nat) : Int))))) + p.Events)) + ((p.Sems.length : Nat) : Int))) trivial
    (fun i x z hi hx _=>⟨by
      obtain⟨e,he⟩:=Zma x
      simp only [Yx,hi,hx,decide_true,cond_true,Option.bind_some,he],trivial⟩) (fun z _=>by simp [Yx])
  simp only [Uo,h.1,Option.bind_some,Zb2]
theorem Zmb (p : GPlan) : Th p=some (Zb2 p):=by
  have h:=Zew (L:=Vt p) (l:=p.Ports) (g:=fun z x=>IntKind.i64.wrap (z + IntKind.i64.wrap (3 + Zjb x))) (I:=fun _ _=>True)
    (z:=IntKind.i64.wrap ((IntKind.i64.wrap ((IntKind.i64.wrap ((IntKind.i64.wrap (58 + (IntKind.i64.wrap (76 * ((p.Procs.length : Nat) : Int))))) + (IntKind.i64.wrap (68 * ((p.Pages.length : Nat) : Int))))) + p.Events)) + ((p.Sems.length : Nat) : Int))) trivial
    (fun i x z hi hx _=>⟨by
      obtain⟨e,he⟩:=Zn2 x
      simp only [Vt,hi,hx,decide_true,cond_true,Option.bind_some,he],trivial⟩) (fun z _=>by simp [Vt])
  simp only [Th,h.1,Option.bind_some,Zb2]
def orE (a b : ErrM) : ErrM:=if a=.nil then b else a
def Zmc (p : GPlan) : ErrM:=orE (Zbf p) (orE (Tn p) (if 4096 < Zb2 p then .v Hk else .nil))
theorem Zmd (p : GPlan) : Vo p=some (Zmc p):=by
  have h2:=Ua (L:=Jk p) (l:=p.Ports) (f:=Tm) (fun i x hi hx=>by
    simp only [Jk,hi,hx,decide_true,cond_true,Option.bind_some,Zb1,Tm]
    rcases Zav x with h | ⟨g,h⟩
    · rw [h];rfl
    · rw [h];rfl) (by simp [Jk])
  have h1:=Ua (L:=Jj p) (l:=p.Sems) (f:=Zja) (fun i x hi hx=>by
    simp only [Jj,hi,hx,decide_true,cond_true,Option.bind_some,Zi9,Bool.cond_eq_ite,Bool.or_eq_true,decide_eq_true_eq,Zja,Zg3,Tv,Zbj,if_true]
    split <;> rfl) (by simp [Jj])
  simp only [Vo,h1,h2,Zfy,Option.bind_some,Bool.cond_eq_ite,Bool.or_eq_true,decide_eq_true_eq,Zmc,Zbf,Tn]
  have hp : ∀ e,Ju Tm 0 p.Ports=some e → e ≠ .nil:=by
    have key : ∀ (l : List GPortPlan) k e,Ju Tm k l=some e → e ≠ .nil:=by
      intro l
      induction l with
      | nil=>intro k e h;cases h
      | cons x r ih=>
        intro k e h
        rcases Zav x with hs | ⟨g,hs⟩
        · simp only [Ju,Tm,hs] at h;exact ih _ _ h
        · simp only [Ju,Tm,hs,Option.some.injEq] at h;subst h;intro h;cases h
    exact key _ _
  have hq : ∀ e,Ju Zja 0 p.Sems=some e → e ≠ .nil:=by
    have key : ∀ (l : List Int) k e,Ju Zja k l=some e → e ≠ .nil:=by
      intro l
      induction l with
      | nil=>intro k e h;cases h
      | cons x r ih=>
        intro k e h
        by_cases hs : x < 0 ∨ 255 < x
        · simp only [Ju,Zja,if_pos hs,Option.some.injEq] at h;subst h;intro h;cases h
        · simp only [Ju,Zja,if_neg hs] at h;exact ih _ _ h
    exact key _ _
  by_cases c1 : 8 < p.Ports.length
  · simp only [c1,if_true,orE];rfl
  simp only [c1,if_false]
  cases h3 : Ju Tm 0 p.Ports with
  | some e=>
    have:=hp e h3
    simp only [fin,orN,Option.getD_some,orE,this,if_false]
  | none=>
    simp only [fin,orN,Option.getD_none,orE,if_true]
    by_cases c2 : p.Events < 0 ∨ 8 < p.Events
    · simp only [c2,if_true];rfl
    simp only [c2,if_false]
    by_cases c3 : 8 < p.Sems.length
    · simp only [c3,if_true];rfl
    simp only [c3,if_false]
    cases h4 : Ju Zja 0 p.Sems with
    | some e=>
      have:=hq e h4
      simp only [fin,orN,Option.getD_some,this,if_false]
    | none=>
      simp only [fin,orN,Option.getD_none,if_true]
      split <;> rfl
def Zab (p : GPlan) : ErrM:=if p.Id < 0 ∨ 2147483647 < p.Id then .v Jg else orE (Zax p) (orE (Zay p) (Zmc p))
theorem Hv (p : GPlan) : Js p=some (Zab p):=by
  simp only [Js,Zkp,Zkq,Zmd,Option.bind_some,Bool.cond_eq_ite,Bool.or_eq_true,decide_eq_true_eq,Zab,Bool.not_eq_true',decide_eq_false_iff_not,orE]
  repeat' split
  all_goals first | rfl | (simp_all;done)
def eR (e : ErrM) : GR10Err:=⟨e.code,e.place⟩
theorem Zme (p : GPlan) : Te p=some (eR (Zax p)):=by
  have h:=Ua (L:=Yz p) (l:=p.Pages) (f:=fun i x=>(Zex i x).map eR) (fun i x hi hx=>by
    simp only [Yz,Uy,hi,hx,decide_true,cond_true,Option.bind_some,Bool.cond_eq_ite,decide_eq_true_eq,Zex]
    by_cases c1 : x.Rights < 0
    · simp only [c1,if_true,true_or,Option.bind_some,Option.map_some,Tv];rfl
    by_cases c2 : 7 < x.Rights
    · simp only [c1,c2,if_true,if_false,decide_true,or_true,Option.bind_some,Option.map_some,Tv];rfl
    by_cases c3 : 64 < x.Init.size
    · simp [c1,c2,c3,Tv];rfl
    · simp [c1,c2,c3,Zbj]) (by simp [Yz])
  simp only [Te,Yh,Ye,h,Zax,Option.bind_some,Bool.cond_eq_ite,Bool.or_eq_true,decide_eq_true_eq]
  rw [Zao (f:=Zex) (m:=eR) _ _ fun _ _ _=>rfl]
  cases Ju Zex 0 p.Pages <;> (split <;> rfl)
theorem Zmf (p : GPlan) : Tf p=some (eR (Zay p)):=by
  have h:=Ua (L:=Vr p) (l:=p.Procs) (f:=fun i x=>(Zey p.Pages.length i x).map eR) (fun i x hi hx=>by
    by_cases c1 : x.Entry < 0 <;> by_cases c2 : IntKind.i64.wrap (64 * (p.Pages.length : Int)) ≤ x.Entry <;> by_cases c3 : Int.tmod x.Entry 4=0 <;> by_cases c4 : x.Prio < 0 <;> by_cases c5 : 255 < x.Prio
    all_goals
      simp only [Vr,Gs,hi,hx,decide_true,decide_false,cond_true,cond_false,Option.bind_some,Zey,c1,c2,c3,c4,c5,Bool.not_true,Bool.not_false,true_or,or_true,or_false,false_or,if_true,if_false,ne_eq,not_true_eq_false,not_false_eq_true]
      rfl) (by simp [Vr])
  simp only [Tf,Yh,Ye,h,Zay,Option.bind_some,Bool.cond_eq_ite,Bool.or_eq_true,decide_eq_true_eq]
  rw [Zao (f:=Zey p.Pages.length) (m:=eR) _ _ fun _ _ _=>rfl]
  cases Ju (Zey p.Pages.length) 0 p.Procs <;> (split <;> rfl)
theorem Zmg (p : GPlan) : Tg p=some (eR (Zbf p)):=by
  have h:=Ua (L:=Vs p) (l:=p.Ports) (f:=fun i x=>(Tm i x).map eR) (fun i x hi hx=>by
    simp only [Vs,hi,hx,decide_true,cond_true,Option.bind_some,Zc3,Bool.cond_eq_ite,Bool.not_eq_true',decide_eq_false_iff_not,Zc2,Tm]
    rcases Zav x with h | ⟨g,h⟩
    · rw [h];rfl
    · rw [h,if_pos (show ¬ ErrM.v g=.nil from fun h=>by cases h)];rfl) (by simp [Vs])
  simp only [Tg,Yh,Ye,h,Zbf,Option.bind_some,Bool.cond_eq_ite,decide_eq_true_eq]
  rw [Zao (f:=Tm) (m:=eR) _ _ fun _ _ _=>rfl]
  cases Ju Tm 0 p.Ports <;> (split <;> rfl)
theorem Zkr (p : GPlan) : Gz p=some (eR (Tn p)):=by
  have h:=Ua (L:=Vb p) (l:=p.Sems) (f:=fun i x=>(Zja i x).map eR) (fun i x hi hx=>by
    by_cases c1 : x < 0 <;> by_cases c2 : 255 < x
    all_goals
      simp only [Vb,Uz,hi,hx,decide_true,decide_false,cond_true,cond_false,Option.bind_some,Zja,c1,c2,true_or,or_true,or_false,false_or,if_true,if_false]
      rfl) (by simp [Vb])
  simp only [Gz,Yh,Ye,h,Tn,Option.bind_some,Bool.cond_eq_ite,Bool.or_eq_true,decide_eq_true_eq]
  rw [Zao (f:=Zja) (m:=eR) _ _ fun _ _ _=>rfl]
  by_cases c1 : p.Events < 0 ∨ 8 < p.Events
  · simp only [c1,if_true];rfl
  by_cases c2 : 8 < p.Sems.length
  · simp only [c1,c2,if_true,if_false];rfl
  simp only [c1,c2,if_false]
  cases Ju Zja 0 p.Sems <;> rfl
theorem Zmh (p : GPlan) : Ti p=some (eR (Zab p)):=by
  simp only [Ti,Zme,Zmf,Zmg,Zkr,Zmb,Yh,Ye,Option.bind_some,Bool.cond_eq_ite,Bool.or_eq_true,decide_eq_true_eq,Zab,Zmc,orE]
  have hL : ∀ i x,i < 4 → [eR (Zax p),eR (Zay p),eR (Zbf p),eR (Tn p)][i]? = some x → Yl (eR (Zax p)) (eR (Zay p)) (eR (Zbf p)) (eR (Tn p)) i=some (nxt (i + 1) (if x.Code=0 then none else some x)):=by
    intro i x hi hx
    have hi' : i < [eR (Zax p),eR (Zay p),eR (Zbf p),eR (Tn p)].length:=hi
    simp only [Yl,hi',hx,decide_true,cond_true,Option.bind_some,Bool.cond_eq_ite,Bool.not_eq_true',decide_eq_false_iff_not]
    by_cases c : x.Code=0
    · simp only [c,not_true_eq_false,if_false,if_true,Zbj]
    · simp only [c,not_false_eq_true,if_false,if_true,Tv]
  have h:=Ua (L:=Yl (eR (Zax p)) (eR (Zay p)) (eR (Zbf p)) (eR (Tn p))) (l:=[eR (Zax p),eR (Zay p),eR (Zbf p),eR (Tn p)]) (f:=fun _ x=>if x.Code=0 then none else some x) hL (by simp [Yl])
  rw [h]
  have hc : ∀ e : ErrM,(eR e).Code=0 ↔ e=.nil:=fun e=>Zc2
  simp only [Ju,hc]
  by_cases c0 : p.Id < 0 ∨ 2147483647 < p.Id
  · simp only [c0,if_true];rfl
  simp only [c0,if_false]
  by_cases c1 : Zax p=.nil
  · simp only [c1,if_true]
    by_cases c2 : Zay p=.nil
    · simp only [c2,if_true]
      by_cases c3 : Zbf p=.nil
      · simp only [c3,if_true]
        by_cases c4 : Tn p=.nil
        · simp only [c4,if_true]
          show Option.bind (some (Sum.inl ())) _=_
          by_cases c5 : 4096 < Zb2 p
          · simp only [c5,if_true,Option.bind_some];rfl
          · simp only [c5,if_false,Option.bind_some];rfl
        · simp only [c4,if_false];rfl
      · simp only [c3,if_false];rfl
    · simp only [c2,if_false];rfl
  · simp only [c1,if_false];rfl
theorem Zg4 (p : GPlan) : Hu p=some (decide (Zab p=.nil)):=by
  have : ((eR (Zab p)).Code=0)=(Zab p=.nil):=propext Zc2
  simp only [Hu,Zmh,Option.bind_some,this]
end Go.Proofs.YtfemfiiagjnhdaaGreatDoor
set_option linter.unusedVariables false
set_option linter.unusedSimpArgs false
set_option linter.unusedSectionVars false
namespace Go.Proofs.YtfemfiiagjnhdaaGreatDoor
open Go Go.RowKit
abbrev wr (b : List UInt8) : GWireWriter:=⟨b,.nil⟩
theorem Zj8 (a b : List UInt8) (h : a.length + b.length ≤ 100000000) : Xd (wr a) b=some (wr (a ++ b)):=by
  have hc : (a.length + b.length) * 1 ≤ 140737488355328:=by omega
  simp only [Xd,decide_true,cond_true,chk,hc,if_true]
def be (n : Int) : Nat → List UInt8
  | 0=>[]
  | k + 1=>Qz (shR .i64 n (((8 * k : Nat) : Int))) :: be n k
theorem Kg (n : Int) : ∀ k,(be n k).length=k
  | 0=>rfl
  | k + 1=>by rw [be,List.length_cons,Kg n k]
theorem Zj9 (n : Int) : ∀ (k : Nat) (a : List UInt8),k ≤ 4 → a.length + k ≤ 1000000 → Ur (Xm n) (((k : Nat) : Int) - 1,a,.nil)=some (a ++ be n k,.nil)
  | 0,a,_,_=>by
    have h : ¬ (0 : Int) ≤ ((0 : Nat) : Int) - 1:=by omega
    rw [be,List.append_nil]
    exact Wj (by simp only [Xm,h,decide_false,cond_false])
  | k + 1,a,hk,ha=>by
    have e0 : ((k + 1 : Nat) : Int) - 1=(k : Int):=by omega
    have e1 : (0 : Int) ≤ (k : Int):=by omega
    have e2 : IntKind.i64.wrap (8 * (k : Int))=((8 * k : Nat) : Int):=by rw [Xa ⟨by omega,by omega⟩];omega
    have e3 : (0 : Int) ≤ ((8 * k : Nat) : Int):=by omega
    have e4 : IntKind.i64.wrap ((k : Int) - 1)=(k : Int) - 1:=Xa ⟨by omega,by omega⟩
    have hp:=Zj8 a [Qz (shR .i64 n ((8 * k : Nat) : Int))] (by simp;omega)
    have hs : Xm n ((k : Int),a,.nil)=some (.inl ((k : Int) - 1,a ++ [Qz (shR .i64 n ((8 * k : Nat) : Int))],.nil)):=by
      simp only [Xm,e1,e2,e3,e4,hp,decide_true,cond_true,chk,if_true,Option.bind_some]
    rw [e0,Ya hs,Zj9 n k _ (by omega) (by simp;omega),be,List.append_assoc,List.singleton_append]
theorem Zn3 : Jl 1=some 255:=by
  have h : (0 : Int) ≤ IntKind.i64.wrap (8 * 1):=by decide
  simp only [Jl,chk,h,if_true];rfl
theorem most2 : Jl 2=some 65535:=by
  have h : (0 : Int) ≤ IntKind.i64.wrap (8 * 2):=by decide
  simp only [Jl,chk,h,if_true];rfl
theorem most4 : Jl 4=some 4294967295:=by
  have h : (0 : Int) ≤ IntKind.i64.wrap (8 * 4):=by decide
  simp only [Jl,chk,h,if_true];rfl
theorem Zh3 {n m : Int} {k : Nat} (hm : Jl (k : Int)=some m) (a : List UInt8) (hk : k ≤ 4) (ha : a.length ≤ 900000) (h0 : 0 ≤ n) (h1 : n ≤ m) : Qj (wr a) n (k : Int)=some (wr (a ++ be n k)):=by
  have e1 : ¬ n < 0:=by omega
  have e2 : ¬ m < n:=by omega
  have e3 : IntKind.i64.wrap ((k : Int) - 1)=(k : Int) - 1:=Xa ⟨by omega,by omega⟩
  simp only [Qj,Yr,hm,e1,e2,e3,Zj9 n k a hk (by omega),decide_false,cond_false,Option.bind_some]
def Zdn (z : Int) : Int:=if Zhm .u32 z 1=1 then Gg .u32 (shR .u32 z 1) 3988292384 else shR .u32 z 1
theorem Zn4 (z : Int) : Zai z=some (Zdn z):=by
  unfold Zai Zdn
  by_cases h : Zhm .u32 z 1=1 <;> simp [h]
def Zn5 (z : Int) : Int:=Zdn (Zdn (Zdn (Zdn (Zdn (Zdn (Zdn (Zdn z)))))))
theorem Zqd (z : Int) : Ur Yj (z,0)=some (Zn5 z):=by
  have hs : ∀ z (i : Nat),i < 8 → Yj (z,i)=some (.inl (Zdn z,i + 1)):=fun z i h=>by
    simp only [Yj,h,Zn4,decide_true,cond_true,Option.bind_some]
  rw [Ya (hs _ 0 (by omega)),Ya (hs _ 1 (by omega)),Ya (hs _ 2 (by omega)),Ya (hs _ 3 (by omega)),Ya (hs _ 4 (by omega)),Ya (hs _ 5 (by omega)),Ya (hs _ 6 (by omega)),Ya (hs _ 7 (by omega))]
  exact Wj (by simp [Yj];rfl)
def Zjc (k : Nat) : Vector Int 256:=Vector.ofFn fun j : Fin 256=>if j.val < k then Zn5 (IntKind.u32.wrap (j.val : Int)) else 0
theorem Zh4 (k i : Nat) (h : i < 256) : (Zjc k)[i]=if i < k then Zn5 (IntKind.u32.wrap (i : Int)) else 0:=by simp [Zjc]
theorem Zmi : Tb=some (Zjc 256):=by
  have key : ∀ (m k : Nat) (y : Vector Int 256),k + m=256 → (∀ (j : Nat) (h : j < 256),j < k → y[j]=Zn5 (IntKind.u32.wrap (j : Int))) → Ur Yk (k,y)=some (Zjc 256):=by
    intro m
    induction m with
    | zero=>
      intro k y hk hy
      obtain rfl : k=256:=by omega
      have e : y=Zjc 256:=by
        apply Vector.ext
        intro i hi
        rw [hy i hi hi,Zh4 _ _ hi,if_pos hi]
      rw [e]
      exact Wj (by simp [Yk])
    | succ m ih=>
      intro k y hk hy
      have hlt : k < 256:=by omega
      have hr : rdV y (k : Int)=some y[k]:=by rw [Zpp];simp [hlt]
      have hs : Yk (k,y)=some (.inl (k + 1,y.setIfInBounds k (Zn5 (IntKind.u32.wrap (k : Int))))):=by
        simp only [Yk,hlt,Zqd,hr,decide_true,cond_true,Option.bind_some,Int.toNat_natCast]
      rw [Ya hs]
      refine ih (k + 1) _ (by omega) fun j h hj=>?_
      rw [Vector.getElem_setIfInBounds h]
      by_cases e : k=j
      · subst e;simp
      · rw [if_neg e];exact hy j h (by omega)
  unfold Tb
  rw [key 256 0 _ rfl (fun j h hj=>absurd hj (Nat.not_lt_zero _))]
  rfl
def Zjd (z : Int) (c : UInt8) : Int:=Gg .u32 (Zn5 (IntKind.u32.wrap (Gg .u8 (IntKind.u8.wrap z) (c.toNat : Int)))) (shR .u32 z 8)
theorem xor8 (a b : Int) : 0 ≤ Gg .u8 a b ∧ Gg .u8 a b < 256:=by
  unfold Gg
  generalize ((BitVec.ofInt IntKind.u8.bits a ^^^ BitVec.ofInt IntKind.u8.bits b).toNat : Int)=z
  have h : IntKind.u8.wrap z=z % 256:=by simp [IntKind.wrap,IntKind.signed,IntKind.bits]
  rw [h];omega
theorem Zn6 (z : Int) (b : List UInt8) : Hq z b=some (b.foldl Zjd z):=by
  by_cases h : b.length=0
  · have : b=[]:=List.length_eq_zero_iff.1 h
    subst this
    simp [Hq]
  have hL:=Zew (L:=Wk b (Zjc 256)) (l:=b) (g:=Zjd) (I:=fun _ _=>True) (z:=z) trivial (fun i x z hi hx _=>⟨by
    obtain⟨h0,h1⟩:=xor8 (IntKind.u8.wrap z) (x.toNat : Int)
    have hr : rdV (Zjc 256) (Gg .u8 (IntKind.u8.wrap z) (x.toNat : Int))=some (Zn5 (IntKind.u32.wrap (Gg .u8 (IntKind.u8.wrap z) (x.toNat : Int)))):=by
      unfold rdV
      rw [if_pos h0]
      have hlt : (Gg .u8 (IntKind.u8.wrap z) (x.toNat : Int)).toNat < 256:=by omega
      rw [Vector.getElem?_eq_getElem hlt,Zh4 _ _ hlt,if_pos hlt,Int.toNat_of_nonneg h0]
    simp only [Wk,hi,hx,hr,decide_true,cond_true,Option.bind_some,Zjd],trivial⟩) (fun z _=>by simp [Wk])
  simp only [Hq,h,Zmi,hL.1,decide_false,cond_false,Option.bind_some]
def Zfz (b : List UInt8) : Int:=Znb .u32 (b.foldl Zjd (Znb .u32 0))
theorem Zg5 (b : List UInt8) : Tc b=some (Zfz b):=by
  simp only [Tc,Zbi,Zn6,Option.bind_some,Znb];rfl
end Go.Proofs.YtfemfiiagjnhdaaGreatDoor
set_option linter.unusedVariables false
set_option linter.unusedSimpArgs false
set_option linter.unusedSectionVars false
namespace Go.Proofs.YtfemfiiagjnhdaaGreatDoor
open Go Go.RowKit
structure OkCur (c : GWireCursor) : Prop where
  a0 : 0 ≤ c.at_
  ab : c.at_ ≤ c.bound_
  bl : c.bound_ ≤ ((c.b_.length : Nat) : Int)
  sz : c.b_.length ≤ 140737488355328
theorem Ql (c : GWireCursor) : (⟨c.b_,c.at_,c.bound_⟩ : GWireCursor)=c:=rfl
def cut (b : List UInt8) (a n : Nat) : List UInt8:=(b.drop a).take n
theorem Zje {b : List UInt8} {a n : Nat} (h : a + n ≤ b.length) : (cut b a n).length=n:=by
  rw [cut,List.length_take,List.length_drop];omega
theorem Km (c : GWireCursor) (h : OkCur c) : Qm c=some (c.bound_ - c.at_,c):=by
  obtain⟨h1,h2,h3,h4⟩:=h
  have e : IntKind.i64.wrap (c.bound_ - c.at_)=c.bound_ - c.at_:=Xa ⟨by omega,by omega⟩
  simp only [Ql,Qm,e]
theorem Zg6 (c : GWireCursor) (off w : Nat) (hw : w ≤ 4) (h : OkCur c) (ho : c.at_ + (off : Int) + (w : Int) ≤ ((c.b_.length : Nat) : Int)) :
    Qv c (off : Int) (w : Int)=some (Yb (cut c.b_ (c.at_.toNat + off) w),c):=by
  obtain⟨h1,h2,h3,h4⟩:=h
  have e1 : IntKind.i64.wrap (c.at_ + (off : Int))=c.at_ + (off : Int):=Xa ⟨by omega,by omega⟩
  have e2 : IntKind.i64.wrap (c.at_ + (off : Int) + (w : Int))=c.at_ + (off : Int) + (w : Int):=Xa ⟨by omega,by omega⟩
  have e3 : (c.at_ + (off : Int)).toNat=c.at_.toNat + off:=by omega
  have e4 : (c.at_ + (off : Int) + (w : Int)).toNat - (c.at_.toNat + off)=w:=by omega
  have hc : (c.b_.drop (c.at_.toNat + off)).take w=cut c.b_ (c.at_.toNat + off) w:=rfl
  have hl:=Zje (b:=c.b_) (a:=c.at_.toNat + off) (n:=w) (by omega)
  have hch : 0 ≤ c.at_ + (off : Int) ∧ c.at_ + (off : Int) ≤ c.at_ + (off : Int) + (w : Int) ∧ c.at_ + (off : Int) + (w : Int) ≤ ((c.b_.length : Nat) : Int):=⟨by omega,by omega,ho⟩
  have hL : Ur (Qx c (off : Int) (w : Int)) (0,0)=some (Yb (cut c.b_ (c.at_.toNat + off) w)):=by
    generalize hl0 : cut c.b_ (c.at_.toNat + off) w=l at *
    have key : ∀ m k,k + m=l.length → Ur (Qx c (off : Int) (w : Int)) (Yb (l.take k),k)=some (Yb l):=by
      intro m
      induction m with
      | zero=>
        intro k hk
        have e : l.take k=l:=List.take_of_length_le (by omega)
        rw [e]
        exact Wj (by simp only [Ql,Qx,e1,e2,e3,e4,hc,hl0,show ¬ k < l.length by omega,decide_false,cond_false])
      | succ m ih=>
        intro k hk
        have hlt : k < l.length:=by omega
        have hx : l[k]? = some l[k]:=List.getElem?_eq_getElem hlt
        obtain⟨b0,b1⟩:=Zj2 k (l.take k) (by rw [List.length_take];omega)
        have hk3 : k ≤ 3:=by omega
        have hb : Yb (l.take k) < 16777216:=by
          have : (256 : Int) ^ k ≤ 256 ^ 3:=by
            rcases (by omega : k=0 ∨ k=1 ∨ k=2 ∨ k=3) with rfl|rfl|rfl|rfl <;> decide
          have h3 : (256 : Int) ^ 3=16777216:=by decide
          omega
        have hcx:=(l[k]).toNat_lt
        have ho8:=or8 (z:=(8 : Int).toNat) b0 hb (x:=((l[k]).toNat : Int)) (by omega) (by omega) rfl
        have es : Yb (l.take (k + 1))=Yb (l.take k) * 256 + ((l[k]).toNat : Int):=by rw [List.take_add_one,hx];exact Zfr _ _
        have hs : Qx c (off : Int) (w : Int) (Yb (l.take k),k)=some (.inl (Yb (l.take (k + 1)),k + 1)):=by
          simp only [Ql,Qx,e1,e2,e3,e4,hc,hl0,hlt,hx,decide_true,cond_true,Option.bind_some,es]
          exact congrArg (fun z=>some (Sum.inl (z,k + 1))) ho8
        rw [Ya hs]
        exact ih (k + 1) (by omega)
    have:=key l.length 0 (by omega)
    simpa [Yb] using this
  simp only [Ql,Qv,e1,e2,chk,hch,and_self,if_true,hL,Option.bind_some]
theorem Zeg (c : GWireCursor) (h : OkCur c) : Jy c=some (if c.bound_ - c.at_ < 3 then (0,0,.pl c.at_ Yc,c) else (Yb (cut c.b_ c.at_.toNat 1),Yb (cut c.b_ (c.at_.toNat + 1) 2),.nil,c)):=by
  have ha : Jt c.at_ (.v Yc)=some (.pl c.at_ Yc):=rfl
  by_cases hc : c.bound_ - c.at_ < 3
  · simp only [Ql,Jy,Km c h,hc,ha,decide_true,cond_true,Option.bind_some,if_true]
  · have p1:=Zg6 c 0 1 (by omega) h (by have:=h.bl;omega)
    have p2:=Zg6 c 1 2 (by omega) h (by have:=h.bl;omega)
    rw [Nat.add_zero] at p1
    simp only [Ql,Jy,Km c h,hc,decide_false,cond_false,Option.bind_some,if_false]
    rw [show Qv c 0 1=_ from p1]
    simp only [Option.bind_some]
    rw [show Qv c 1 2=_ from p2]
    rfl
theorem Zmj {b : List UInt8} (hb : b.length ≤ 2) : 0 ≤ Yb b ∧ Yb b ≤ 65535:=by
  obtain⟨h1,h2⟩:=Zj2 b.length b rfl
  have : (256 : Int) ^ b.length ≤ 256 ^ 2:=by
    rcases (by omega : b.length=0 ∨ b.length=1 ∨ b.length=2) with e|e|e <;> rw [e] <;> decide
  have h3 : (256 : Int) ^ 2=65536:=by decide
  omega
theorem Zh5 (b : List UInt8) (a n : Nat) : (cut b a n).length ≤ n:=by rw [cut,List.length_take];omega
def Hc (c : GWireCursor) : Int × Option GWireCursor × ErrM × GWireCursor:=
  if c.bound_ - c.at_ < 3 then (0,none,.pl c.at_ Yc,c)
  else if Yb (cut c.b_ c.at_.toNat 1)=0 then (0,none,.pl c.at_ Zko,c)
  else if c.bound_ - c.at_ - 3 < Yb (cut c.b_ (c.at_.toNat + 1) 2) then (0,none,.pl (c.at_ + 1) Yu,c)
  else (Yb (cut c.b_ c.at_.toNat 1),some ⟨c.b_,c.at_ + 3,c.at_ + 3 + Yb (cut c.b_ (c.at_.toNat + 1) 2)⟩,.nil,⟨c.b_,c.at_ + 3 + Yb (cut c.b_ (c.at_.toNat + 1) 2),c.bound_⟩)
theorem Zmk (c : GWireCursor) (n : Int) (h : OkCur c) (h3 : 3 ≤ c.bound_ - c.at_) (n0 : 0 ≤ n) (n1 : n ≤ 65535) :
    Jq c n=some (if c.bound_ - c.at_ - 3 < n then (none,.pl (c.at_ + 1) Yu,c) else (some ⟨c.b_,c.at_ + 3,c.at_ + 3 + n⟩,.nil,⟨c.b_,c.at_ + 3 + n,c.bound_⟩)):=by
  have ok:=h
  obtain⟨k1,k2,k3,k4⟩:=h
  have w1 : IntKind.i64.wrap (c.bound_ - c.at_ - 3)=c.bound_ - c.at_ - 3:=Xa ⟨by omega,by omega⟩
  have w2 : IntKind.i64.wrap (c.at_ + 1)=c.at_ + 1:=Xa ⟨by omega,by omega⟩
  have w3 : IntKind.i64.wrap (c.at_ + 3)=c.at_ + 3:=Xa ⟨by omega,by omega⟩
  have w4 : IntKind.i64.wrap (c.at_ + 3 + n)=c.at_ + 3 + n:=Xa ⟨by omega,by omega⟩
  have ha : Jt (c.at_ + 1) (.v Yu)=some (.pl (c.at_ + 1) Yu):=rfl
  by_cases hc : c.bound_ - c.at_ - 3 < n
  · simp only [Ql,Jq,Km c ok,w1,w2,hc,ha,decide_true,cond_true,Option.bind_some,if_true]
  · simp only [Ql,Jq,Km c ok,w1,w3,w4,hc,decide_false,cond_false,Option.bind_some,if_false]
theorem Zka (c : GWireCursor) (h : OkCur c) : Xn c=some (Hc c):=by
  have hg : Jt c.at_ (.v Zko)=some (.pl c.at_ Zko):=rfl
  unfold Hc
  by_cases hc : c.bound_ - c.at_ < 3
  · have : ¬ (ErrM.pl c.at_ Yc=ErrM.nil):=fun h=>by cases h
    simp only [Ql,Xn,Zeg c h,hc,if_true,Option.bind_some,this,decide_false,Bool.not_false,cond_true]
  · have hn:=Zmj (Zh5 c.b_ (c.at_.toNat + 1) 2)
    have he:=Zmk c (Yb (cut c.b_ (c.at_.toNat + 1) 2)) h (by omega) hn.1 hn.2
    by_cases ht : Yb (cut c.b_ c.at_.toNat 1)=0
    · simp only [Ql,Xn,Zeg c h,hc,ht,hg,if_true,if_false,Option.bind_some,decide_true,Bool.not_true,cond_true,cond_false]
    · by_cases hl : c.bound_ - c.at_ - 3 < Yb (cut c.b_ (c.at_.toNat + 1) 2)
      · have : ¬ (ErrM.pl (c.at_ + 1) Yu=ErrM.nil):=fun h=>by cases h
        rw [if_pos hl] at he
        simp only [Ql,Xn,Zeg c h,hc,ht,hl,he,this,if_true,if_false,Option.bind_some,decide_true,decide_false,Bool.not_true,Bool.not_false,cond_true,cond_false]
      · rw [if_neg hl] at he
        simp only [Ql,Xn,Zeg c h,hc,ht,hl,he,if_false,Option.bind_some,decide_true,decide_false,Bool.not_true,cond_false]
theorem Zn7 {c : GWireCursor} (h : OkCur c) : OkCur (Hc c).2.2.2 ∧ (Hc c).2.2.2.b_=c.b_ ∧ (Hc c).2.2.2.bound_=c.bound_ ∧ (∀ d,(Hc c).2.1=some d → OkCur d ∧ d.b_=c.b_ ∧ c.at_ + 3=d.at_ ∧ d.bound_=(Hc c).2.2.2.at_) ∧ ((Hc c).2.2.1=.nil → ∃ d,(Hc c).2.1=some d):=by
  have ok:=h
  obtain⟨k1,k2,k3,k4⟩:=h
  have hn:=Zmj (Zh5 c.b_ (c.at_.toNat + 1) 2)
  unfold Hc
  split
  · exact⟨ok,rfl,rfl,(fun d h=>by cases h),(fun h=>by cases h)⟩
  · split
    · exact⟨ok,rfl,rfl,(fun d h=>by cases h),(fun h=>by cases h)⟩
    · split
      · exact⟨ok,rfl,rfl,(fun d h=>by cases h),(fun h=>by cases h)⟩
      · refine⟨⟨by simp only;omega,by simp only;omega,k3,k4⟩,rfl,rfl,fun d hd=>?_,fun _=>⟨_,rfl⟩⟩
        cases hd
        exact⟨⟨by simp only;omega,by simp only;omega,by simp only;omega,k4⟩,rfl,rfl,rfl⟩
end Go.Proofs.YtfemfiiagjnhdaaGreatDoor
set_option linter.unusedVariables false
set_option linter.unusedSimpArgs false
set_option linter.unusedSectionVars false
namespace Go.Proofs.YtfemfiiagjnhdaaGreatDoor
open Go Go.RowKit
theorem Zez {α : Type} {l : List α} {i : Nat} {x : α} (h : l[i]? = some x) : l.take (i + 1)=l.take i ++ [x]:=by rw [List.take_add_one,h];rfl
section
variable {σ ρ α : Type}
theorem Zdo {L : σ → Option (σ ⊕ ρ)} (I : σ → Prop) (Q : ρ → Prop) (μ : σ → Nat)
    (h : ∀ s,I s → (∃ s',L s=some (.inl s') ∧ I s' ∧ μ s' < μ s) ∨ (∃ r,L s=some (.inr r) ∧ Q r)) {s : σ} (h0 : I s) : ∃ r,Ur L s=some r ∧ Q r:=by
  have key : ∀ n s,μ s < n → I s → ∃ r,Ur L s=some r ∧ Q r:=by
    intro n
    induction n with
    | zero=>intro s hs;omega
    | succ n ih=>
      intro s hs hI
      rcases h s hI with ⟨s',h1,h2,h3⟩ | ⟨r,h1,h2⟩
      · obtain⟨r,h4,h5⟩:=ih s' (by omega) h2
        exact⟨r,(Ya h1).trans h4,h5⟩
      · exact⟨r,Wj h1,h2⟩
  exact key _ s (Nat.lt_succ_self _) h0
theorem Zbg {f : Nat → α → Option ErrM} (hf : ∀ i x,f i x ≠ some .nil) : ∀ {l : List α} {k : Nat},orN (Ju f k l)=.nil → ∀ i x,l[i]? = some x → f (k + i) x=none
  | [],_,_,i,x,hx=>by simp at hx
  | y :: r,k,h,i,x,hx=>by
    cases hy : f k y with
    | some e=>
      simp only [Ju,hy,orN,Option.getD_some] at h
      subst h;exact absurd hy (hf k y)
    | none=>
      simp only [Ju,hy] at h
      cases i with
      | zero=>
        have : y=x:=by simpa using hx
        subst this;exact hy
      | succ j=>
        have:=Zbg hf h j x (by simpa using hx)
        rwa [show k + 1 + j=k + (j + 1) by omega] at this
end
theorem Zeh {a b : ErrM} (h : orE a b=.nil) : a=.nil ∧ b=.nil:=by
  unfold orE at h
  by_cases c : a=.nil
  · rw [if_pos c] at h;exact⟨c,h⟩
  · rw [if_neg c] at h;exact absurd h c
structure OkK (p : GPlan) : Prop where
  id0 : 0 ≤ p.Id
  id1 : p.Id ≤ 2147483647
  pg0 : 1 ≤ p.Pages.length
  pg1 : p.Pages.length ≤ 32
  pr0 : 1 ≤ p.Procs.length
  pr1 : p.Procs.length ≤ 8
  po1 : p.Ports.length ≤ 8
  ev0 : 0 ≤ p.Events
  ev1 : p.Events ≤ 8
  se1 : p.Sems.length ≤ 8
  pag : ∀ x ∈ p.Pages,0 ≤ x.Rights ∧ x.Rights ≤ 7 ∧ x.Init.size ≤ 64
  prio : ∀ x ∈ p.Procs,0 ≤ x.Prio ∧ x.Prio ≤ 255 ∧ 0 ≤ x.Entry ∧ x.Entry < 2048 ∧ x.Entry < 64 * (p.Pages.length : Int) ∧ Int.tmod x.Entry 4=0
  dep : ∀ x ∈ p.Ports,Zdm x=.nil ∧ 1 ≤ x.Kind ∧ x.Kind ≤ 4 ∧ 1 ≤ x.Size ∧ x.Size ≤ 32 ∧ 1 ≤ x.Depth ∧ x.Depth ≤ 8 ∧ 0 ≤ x.Refresh ∧ x.Refresh ≤ 255
  bnd : Zb2 p ≤ 4096
  sem : ∀ n ∈ p.Sems,0 ≤ n ∧ n ≤ 255
theorem Zh6 {p : GPlan} (h : Zab p=.nil) : OkK p:=by
  unfold Zab at h
  by_cases c0 : p.Id < 0 ∨ 2147483647 < p.Id
  · rw [if_pos c0] at h;cases h
  rw [if_neg c0] at h
  obtain⟨h1,h2⟩:=Zeh h
  obtain⟨h2,h3⟩:=Zeh h2
  unfold Zmc at h3
  obtain⟨h3,h4⟩:=Zeh h3
  obtain⟨h4,h5⟩:=Zeh h4
  unfold Zax at h1
  by_cases c1 : p.Pages.length < 1 ∨ 32 < p.Pages.length
  · rw [if_pos c1] at h1;cases h1
  rw [if_neg c1] at h1
  have c6 : ¬ 4096 < Zb2 p:=fun h=>by rw [if_pos h] at h5;cases h5
  have hw : IntKind.i64.wrap (64 * (p.Pages.length : Int))=64 * (p.Pages.length : Int):=Xa ⟨by omega,by omega⟩
  unfold Zay at h2
  by_cases c2 : p.Procs.length < 1 ∨ 8 < p.Procs.length
  · rw [if_pos c2] at h2;cases h2
  rw [if_neg c2] at h2
  unfold Zbf at h3
  by_cases c3 : 8 < p.Ports.length
  · rw [if_pos c3] at h3;cases h3
  rw [if_neg c3] at h3
  unfold Tn at h4
  by_cases c4 : p.Events < 0 ∨ 8 < p.Events
  · rw [if_pos c4] at h4;cases h4
  rw [if_neg c4] at h4
  by_cases c5 : 8 < p.Sems.length
  · rw [if_pos c5] at h4;cases h4
  rw [if_neg c5] at h4
  refine⟨by omega,by omega,by omega,by omega,by omega,by omega,by omega,by omega,by omega,by omega,fun x hx=>?_,fun x hx=>?_,fun x hx=>?_,by omega,fun x hx=>?_⟩
  · obtain⟨i,hi⟩:=List.mem_iff_getElem?.1 hx
    have:=Zbg (f:=Zex) (fun i x=>by unfold Zex;(repeat' split) <;> intro h <;> cases h) h1 i x hi
    unfold Zex at this
    repeat' split at this
    all_goals first | (cases this;done) | omega
  · obtain⟨i,hi⟩:=List.mem_iff_getElem?.1 hx
    have:=Zbg (f:=Zey p.Pages.length) (fun i x=>by unfold Zey;split <;> intro h <;> cases h) h2 i x hi
    unfold Zey at this
    rw [hw] at this
    split at this
    · cases this
    · omega
  · obtain⟨i,hi⟩:=List.mem_iff_getElem?.1 hx
    have:=Zbg (f:=Tm) (fun i x=>by unfold Tm;split <;> intro h <;> cases h) h3 i x hi
    unfold Tm at this
    rcases Zav x with e | ⟨g,e⟩
    · refine⟨e,?_⟩
      unfold Zdm at e
      repeat' split at e
      all_goals first | (cases e;done) | omega
    · rw [e] at this;cases this
  · obtain⟨i,hi⟩:=List.mem_iff_getElem?.1 hx
    have:=Zbg (f:=Zja) (fun i x=>by unfold Zja;split <;> intro h <;> cases h) h4 i x hi
    unfold Zja at this
    split at this
    · cases this
    · omega
def Ze0 (x : GProcPlan) : GProc:=⟨Vector.replicate 16 0,IntKind.u32.wrap x.Entry,if x.Auto=true then 1 else 0,x.Prio,0,0⟩
def Zed : Nat → List GProcPlan → List Int
  | _,[]=>[]
  | k,x :: r=>(if x.Auto=true then [((k : Nat) : Int)] else []) ++ Zed (k + 1) r
theorem Zf0 (x : GProcPlan) : ∀ (l : List GProcPlan) (k : Nat),Zed k (l ++ [x])=Zed k l ++ (if x.Auto=true then [((k + l.length : Nat) : Int)] else [])
  | [],k=>by simp [Zed]
  | y :: r,k=>by
    have ih:=Zf0 x r (k + 1)
    rw [List.cons_append,Zed,ih,Zed,List.append_assoc,List.length_cons,show k + 1 + r.length=k + (r.length + 1) by omega]
theorem Zh7 : ∀ (l : List GProcPlan) (k : Nat),(Zed k l).length ≤ l.length
  | [],_=>Nat.le_refl _
  | y :: r,k=>by
    have:=Zh7 r (k + 1)
    rw [Zed,List.length_append,List.length_cons];split <;> simp <;> omega
def Zc4 (x : GPagePlan) : GPage:=⟨x.Rights,false,Znc (Vector.replicate 64 0) x.Init⟩
def Zh8 (p : GPlan) : GState:=⟨p.Id,0,0,p.Procs.map Ze0,Zed 0 p.Procs,[],List.replicate p.Events.toNat false,p.Sems,List.replicate p.Ports.length ⟨[],0⟩,p.Pages.map Zc4⟩
theorem Zks {p : GPlan} (h : Zab p=.nil) : Td p=some (Zh8 p,.nil):=by
  have ok:=Zh6 h
  have hA:=Zdo (L:=Vq p) (fun s : Nat × List GProc × List Int=>s.1 ≤ p.Procs.length ∧ s.2.1=(p.Procs.take s.1).map Ze0 ∧ s.2.2=Zed 0 (p.Procs.take s.1)) (fun r=>r=(p.Procs.map Ze0,Zed 0 p.Procs)) (fun s=>p.Procs.length - s.1) (fun s hI=>by
    obtain⟨i,l1,l2⟩:=s
    obtain⟨hi,h1,h2⟩:=hI
    simp only at hi h1 h2
    by_cases hlt : i < p.Procs.length
    · have hx : p.Procs[i]? = some p.Procs[i]:=List.getElem?_eq_getElem hlt
      generalize p.Procs[i]=x at hx
      have hl1 : l1.length=i:=by rw [h1];simp;omega
      have hl2:=Zh7 (p.Procs.take i) 0
      rw [← h2,List.length_take] at hl2
      have hp:=ok.pr1
      have c1 : ∀ t : GProc,(l1.length + [t].length) * 104 ≤ 140737488355328:=fun t=>by simp only [List.length_cons,List.length_nil];omega
      have c2 : (l2.length + [((i : Nat) : Int)].length) * 8 ≤ 140737488355328:=by simp only [List.length_cons,List.length_nil];omega
      have e1 : (p.Procs.take (i + 1)).map Ze0=l1 ++ [Ze0 x]:=by rw [Zez hx,List.map_append,h1];rfl
      have e2 : Zed 0 (p.Procs.take (i + 1))=l2 ++ (if x.Auto=true then [((i : Nat) : Int)] else []):=by rw [Zez hx,Zf0,← h2,List.length_take,Nat.min_eq_left (by omega),Nat.zero_add]
      refine .inl ⟨(i + 1,l1 ++ [Ze0 x],l2 ++ (if x.Auto=true then [((i : Nat) : Int)] else [])),?_,⟨by simp only;omega,e1.symm,e2.symm⟩,by simp only;omega⟩
      simp only [Vq,Gq,hlt,hx,decide_true,cond_true,Option.bind_some,Ze0]
      rcases Bool.eq_false_or_eq_true x.Auto with e|e
      · simp only [e,cond_true,chk,c1,c2,if_true,Option.bind_some]
      · simp only [e,cond_false,chk,c1,if_true,Option.bind_some,Bool.false_eq_true,if_false,List.append_nil]
    · refine .inr ⟨(l1,l2),?_,?_⟩
      · simp only [Vq,hlt,decide_false,cond_false]
      · have : p.Procs.take i=p.Procs:=List.take_of_length_le (by omega)
        rw [this] at h1 h2;rw [h1,h2]) (s:=(0,[],[])) ⟨Nat.zero_le _,rfl,rfl⟩
  obtain⟨_,hA,rfl⟩:=hA
  have hB:=Zdo (L:=Vp p) (fun s : Nat × List GPage=>s.1 ≤ p.Pages.length ∧ s.2=(p.Pages.take s.1).map Zc4) (fun r=>r=p.Pages.map Zc4) (fun s=>p.Pages.length - s.1) (fun s hI=>by
    obtain⟨i,l1⟩:=s
    obtain⟨hi,h1⟩:=hI
    simp only at hi h1
    by_cases hlt : i < p.Pages.length
    · have hx : p.Pages[i]? = some p.Pages[i]:=List.getElem?_eq_getElem hlt
      generalize p.Pages[i]=x at hx
      have hl1 : l1.length=i:=by rw [h1];simp;omega
      have hp:=ok.pg1
      have c1 : ∀ t : GPage,(l1.length + [t].length) * 80 ≤ 140737488355328:=fun t=>by simp only [List.length_cons,List.length_nil];omega
      have e1 : (p.Pages.take (i + 1)).map Zc4=l1 ++ [Zc4 x]:=by rw [Zez hx,List.map_append,h1];rfl
      refine .inl ⟨(i + 1,l1 ++ [Zc4 x]),?_,⟨by simp only;omega,e1.symm⟩,by simp only;omega⟩
      simp only [Vp,hlt,hx,decide_true,cond_true,Option.bind_some,chk,c1,if_true,Zc4]
    · refine .inr ⟨l1,?_,?_⟩
      · simp only [Vp,hlt,decide_false,cond_false]
      · have : p.Pages.take i=p.Pages:=List.take_of_length_le (by omega)
        rw [this] at h1;rw [h1]) (s:=(0,[])) ⟨Nat.zero_le _,rfl⟩
  obtain⟨_,hB,rfl⟩:=hB
  have c0:=ok.ev0
  have c1 : p.Events.toNat * 1 ≤ 140737488355328:=by have:=ok.ev1;omega
  have c2 : (([] : List Int).length + p.Sems.length) * 8 ≤ 140737488355328:=by have:=ok.se1;simp only [List.length_nil];omega
  have c3 : p.Ports.length * 32 ≤ 140737488355328:=by have:=ok.po1;omega
  simp only [Td,Gr,Vy,Hv,h,chk,c0,c1,c2,c3,hA,hB,decide_true,Bool.not_true,cond_false,Option.bind_some,if_true,List.nil_append]
  rfl
theorem Zh9 {n : Int} (a : List UInt8) (ha : a.length ≤ 900000) (h0 : 0 ≤ n) (h1 : n ≤ 255) : Qt (wr a) n=some (wr (a ++ be n 1)):=by
  have h : Qj (wr a) n 1=some (wr (a ++ be n 1)):=Zh3 (k:=1) Zn3 a (by omega) ha h0 h1
  simp only [Qt,h,Option.bind_some]
theorem u16_wr {n : Int} (a : List UInt8) (ha : a.length ≤ 900000) (h0 : 0 ≤ n) (h1 : n ≤ 65535) : Yy (wr a) n=some (wr (a ++ be n 2)):=by
  have h : Qj (wr a) n 2=some (wr (a ++ be n 2)):=Zh3 (k:=2) most2 a (by omega) ha h0 h1
  simp only [Yy,h,Option.bind_some]
theorem Zml {n : Int} (a : List UInt8) (ha : a.length ≤ 900000) (h0 : 0 ≤ n) (h1 : n ≤ 4294967295) : Jn (wr a) n=some (wr (a ++ be n 4)):=by
  have h : Qj (wr a) n 4=some (wr (a ++ be n 4)):=Zh3 (k:=4) most4 a (by omega) ha h0 h1
  simp only [Jn,h,Option.bind_some]
theorem Zmm (a b : List UInt8) (ha : a.length + b.length ≤ 100000000) : Jm (wr a) b=some (wr (a ++ b)):=by
  simp only [Jm,Zj8 a b ha,Option.bind_some]
def Zg7 (b : Bool) : List UInt8:=if b=true then [Qz 1] else [Qz 0]
theorem Zmn (a : List UInt8) (b : Bool) (ha : a.length ≤ 900000) : Jw (wr a) b=some (wr (a ++ Zg7 b)):=by
  have h : ∀ c : UInt8,Xd (wr a) [c]=some (wr (a ++ [c])):=fun c=>Zj8 a [c] (by simp;omega)
  cases b <;> simp [Jw,h,Zg7]
theorem Zjf (a : List UInt8) (ha : a.length ≤ 900000) : Xy (wr a)=some (a,.nil,wr a):=by
  have c : (([] : List UInt8).length + a.length) * 1 ≤ 140737488355328:=by simp;omega
  simp only [Xy,Qy,chk,c,if_true,Option.bind_some,decide_true,Bool.not_true,cond_false,List.nil_append]
def Zbk (t : Int) (b : List UInt8) : List UInt8:=be t 1 ++ (be (b.length : Int) 2 ++ b)
theorem Gt (t : Int) (b : List UInt8) : (Zbk t b).length=3 + b.length:=by simp [Zbk,Kg];omega
theorem Zmo {t : Int} (a b : List UInt8) (ha : a.length ≤ 500000) (h0 : 1 ≤ t) (h1 : t ≤ 255) (hb : b.length ≤ 65535) : Kf (wr a) t b=some (wr (a ++ Zbk t b)):=by
  have e1 : ¬ t < 1:=by omega
  have e2 : ¬ 255 < t:=by omega
  have e3 : ¬ 65535 < b.length:=by omega
  have n1 : Qj (wr a) t 1=some (wr (a ++ be t 1)):=Zh3 (k:=1) Zn3 a (by omega) (by omega) (by omega) h1
  have n2 : Qj (wr (a ++ be t 1)) (b.length : Int) 2=some (wr (a ++ be t 1 ++ be (b.length : Int) 2)):=Zh3 (k:=2) most2 _ (by omega) (by simp [Kg];omega) (by omega) (by omega)
  have n3:=Zj8 (a ++ be t 1 ++ be (b.length : Int) 2) b (by simp [Kg];omega)
  simp only [Kf,Kk,Zn3,e1,e2,e3,n1,n2,n3,decide_false,cond_false,Option.bind_some]
  simp only [Zbk,List.append_assoc]
theorem Zap {t : Int} {f : GWireWriter → Option GWireWriter} {b : List UInt8} (hf : f (wr [])=some (wr b)) (a : List UInt8) (ha : a.length ≤ 500000) (h0 : 1 ≤ t) (h1 : t ≤ 255) (hb : b.length ≤ 65535) : Kl (wr a) t f=some (wr (a ++ Zbk t b)):=by
  have e : Je=some (wr []):=rfl
  simp only [Kl,e,hf,Zjf b (by omega),Zmo a b ha h0 h1 hb,Option.bind_some]
theorem Zei {α : Type} {L : Nat × List UInt8 × ErrM → Option ((Nat × List UInt8 × ErrM) ⊕ (List UInt8 × ErrM))} {l : List α} {f : α → List UInt8} (B M : Nat)
    (h : ∀ i x a,i < l.length → l[i]? = some x → a.length ≤ M → L (i,a,.nil)=some (.inl (i + 1,a ++ f x,.nil))) (h2 : ∀ a,L (l.length,a,.nil)=some (.inr (a,.nil)))
    (hB : ∀ x ∈ l,(f x).length ≤ B) (a : List UInt8) (ha : a.length + l.length * B ≤ M) : Ur L (0,a,.nil)=some (a ++ l.flatMap f,.nil):=by
  have key : ∀ m k a,k + m=l.length → a.length + m * B ≤ M → Ur L (k,a,.nil)=some (a ++ (l.drop k).flatMap f,.nil):=by
    intro m
    induction m with
    | zero=>
      intro k a hk _
      obtain rfl : k=l.length:=by omega
      rw [Wj (h2 a),List.drop_length];simp
    | succ m ih=>
      intro k a hk ha
      have hlt : k < l.length:=by omega
      have hx : l[k]? = some l[k]:=List.getElem?_eq_getElem hlt
      have hd : l.drop k=l[k] :: l.drop (k + 1):=List.drop_eq_getElem_cons hlt
      have hb:=hB l[k] (List.getElem_mem hlt)
      rw [Nat.succ_mul] at ha
      rw [Ya (h k _ a hlt hx (by omega)),ih (k + 1) _ (by omega) (by rw [List.length_append];omega),hd,List.flatMap_cons,List.append_assoc]
  simpa using key l.length 0 a (by omega) ha
def Zbr (x : GPagePlan) : List UInt8:=be x.Rights 1 ++ x.Init.data.toList
def Zce (x : GProcPlan) : List UInt8:=be x.Entry 4 ++ (be x.Prio 1 ++ Zg7 x.Auto)
def Zc5 (x : GPortPlan) : List UInt8:=be x.Kind 1 ++ (be x.Size 1 ++ (be x.Depth 1 ++ be x.Refresh 1))
def Zia (x : Int) : List UInt8:=be x 1
def Hd (p : GPlan) : List UInt8:=p.Pages.flatMap (fun x=>Zbk 1 (Zbr x)) ++ (p.Procs.flatMap (fun x=>Zbk 2 (Zce x)) ++ (p.Ports.flatMap (fun x=>Zbk 3 (Zc5 x)) ++ (Zbk 4 (be p.Events 1) ++ Zbk 5 (p.Sems.flatMap Zia))))
theorem Zib (b : Bool) : (Zg7 b).length=1:=by cases b <;> rfl
theorem Zc6 (x : GPagePlan) : (Zbr x).length=1 + x.Init.size:=by
  have : x.Init.data.toList.length=x.Init.size:=rfl
  rw [Zbr,List.length_append,Kg,this]
theorem Zc7 (x : GProcPlan) : (Zce x).length=6:=by simp [Zce,Kg,Zib]
theorem Zc8 (x : GPortPlan) : (Zc5 x).length=4:=by simp [Zc5,Kg]
theorem Gu {α : Type} {f : α → List UInt8} {B : Nat} : ∀ {l : List α},(∀ x ∈ l,(f x).length ≤ B) → (l.flatMap f).length ≤ l.length * B
  | [],_=>by simp
  | x :: l,h=>by
    have h1:=h x (List.mem_cons_self ..)
    have h2:=Gu (l:=l) fun y hy=>h y (List.mem_cons_of_mem _ hy)
    rw [List.flatMap_cons,List.length_append,List.length_cons,Nat.succ_mul];omega
theorem Zn8 (x : GPagePlan) (hx : 0 ≤ x.Rights ∧ x.Rights ≤ 7 ∧ x.Init.size ≤ 64) : Jz (wr []) x=some (wr (Zbr x)):=by
  obtain⟨h0,h1,h2⟩:=hx
  have c : x.Init.size ≤ 9223372036854775807:=by omega
  have e : x.Init.data.toList.length=x.Init.size:=rfl
  have u:=Zh9 (n:=x.Rights) [] (by simp) h0 (by omega)
  have v:=Zmm ([] ++ be x.Rights 1) x.Init.data.toList (by simp [Kg];omega)
  simp only [Jz,u,v,chk,c,if_true,Option.bind_some]
  simp only [List.nil_append,Zbr]
theorem Zn9 (x : GProcPlan) (hx : 0 ≤ x.Prio ∧ x.Prio ≤ 255 ∧ 0 ≤ x.Entry ∧ x.Entry < 2048) : Ka (wr []) x=some (wr (Zce x)):=by
  obtain⟨h0,h1,h2,h3⟩:=hx
  have u:=Zml (n:=x.Entry) [] (by simp) h2 (by omega)
  have v:=Zh9 (n:=x.Prio) ([] ++ be x.Entry 4) (by simp [Kg]) h0 h1
  have z:=Zmn ([] ++ be x.Entry 4 ++ be x.Prio 1) x.Auto (by simp [Kg])
  simp only [Ka,u,v,z,Option.bind_some]
  simp only [List.nil_append,List.append_assoc,Zce]
theorem Zoa (x : GPortPlan) (hx : 1 ≤ x.Kind ∧ x.Kind ≤ 4 ∧ 1 ≤ x.Size ∧ x.Size ≤ 32 ∧ 1 ≤ x.Depth ∧ x.Depth ≤ 8 ∧ 0 ≤ x.Refresh ∧ x.Refresh ≤ 255) : Kb (wr []) x=some (wr (Zc5 x)):=by
  have u1:=Zh9 (n:=x.Kind) [] (by simp) (by omega) (by omega)
  have u2:=Zh9 (n:=x.Size) ([] ++ be x.Kind 1) (by simp [Kg]) (by omega) (by omega)
  have u3:=Zh9 (n:=x.Depth) ([] ++ be x.Kind 1 ++ be x.Size 1) (by simp [Kg]) (by omega) (by omega)
  have u4:=Zh9 (n:=x.Refresh) ([] ++ be x.Kind 1 ++ be x.Size 1 ++ be x.Depth 1) (by simp [Kg]) (by omega) (by omega)
  simp only [Kb,u1,u2,u3,u4,Option.bind_some]
  simp only [List.nil_append,List.append_assoc,Zc5]
theorem Zic {p : GPlan} (ok : OkK p) : Ww p=some (wr (Hd p)):=by
  have e0 : Je=some (wr []):=rfl
  have b1 : ∀ x ∈ p.Pages,(Zbk 1 (Zbr x)).length ≤ 68:=fun x hx=>by have:=ok.pag x hx;rw [Gt,Zc6];omega
  have b2 : ∀ x ∈ p.Procs,(Zbk 2 (Zce x)).length ≤ 9:=fun x hx=>by rw [Gt,Zc7];omega
  have b3 : ∀ x ∈ p.Ports,(Zbk 3 (Zc5 x)).length ≤ 7:=fun x hx=>by rw [Gt,Zc8];omega
  have b5 : ∀ x ∈ p.Sems,(Zia x).length ≤ 1:=fun x hx=>by rw [Zia,Kg];omega
  have l1:=Gu b1
  have l2:=Gu b2
  have l3:=Gu b3
  have l5:=Gu b5
  have k1:=ok.pg1;have k2:=ok.pr1;have k3:=ok.po1;have k5:=ok.se1
  have hA:=Zei (L:=Kt p) (l:=p.Pages) (f:=fun x=>Zbk 1 (Zbr x)) 68 10000 (fun i x a hi hx ha=>by
    have hb:=ok.pag x (List.mem_of_getElem? hx)
    have hr:=Zap (t:=1) (f:=fun x0=>Jz x0 x) (b:=Zbr x) (Zn8 x hb) a (by omega) (by decide) (by decide) (by rw [Zc6];omega)
    simp only [Kt,hi,hx,hr,decide_true,cond_true,Option.bind_some]) (fun a=>by simp [Kt]) b1 [] (by simp;omega)
  rw [List.nil_append] at hA
  have hB:=Zei (L:=Ks p) (l:=p.Procs) (f:=fun x=>Zbk 2 (Zce x)) 9 10000 (fun i x a hi hx ha=>by
    have hb:=ok.prio x (List.mem_of_getElem? hx)
    have hr:=Zap (t:=2) (f:=fun x0=>Ka x0 x) (b:=Zce x) (Zn9 x ⟨hb.1,hb.2.1,hb.2.2.1,hb.2.2.2.1⟩) a (by omega) (by decide) (by decide) (by rw [Zc7];omega)
    simp only [Ks,hi,hx,hr,decide_true,cond_true,Option.bind_some]) (fun a=>by simp [Ks]) b2 (p.Pages.flatMap (fun x=>Zbk 1 (Zbr x))) (by omega)
  have hC:=Zei (L:=Kr p) (l:=p.Ports) (f:=fun x=>Zbk 3 (Zc5 x)) 7 10000 (fun i x a hi hx ha=>by
    have hb:=ok.dep x (List.mem_of_getElem? hx)
    have hr:=Zap (t:=3) (f:=fun x0=>Kb x0 x) (b:=Zc5 x) (Zoa x hb.2) a (by omega) (by decide) (by decide) (by rw [Zc8];omega)
    simp only [Kr,hi,hx,hr,decide_true,cond_true,Option.bind_some]) (fun a=>by simp [Kr]) b3 (p.Pages.flatMap (fun x=>Zbk 1 (Zbr x)) ++ p.Procs.flatMap (fun x=>Zbk 2 (Zce x))) (by rw [List.length_append];omega)
  have hD : Kc (wr []) p=some (wr (be p.Events 1)):=by
    have u:=Zh9 (n:=p.Events) [] (by simp) ok.ev0 (by have:=ok.ev1;omega)
    simp only [Kc,u,Option.bind_some,List.nil_append]
  have hE : Kd (wr []) p=some (wr (p.Sems.flatMap Zia)):=by
    have h:=Zei (L:=Jo p) (l:=p.Sems) (f:=Zia) 1 10000 (fun i x a hi hx ha=>by
      have hb:=ok.sem x (List.mem_of_getElem? hx)
      have hr:=Zh9 (n:=x) a (by omega) hb.1 hb.2
      simp only [Jo,hi,hx,hr,decide_true,cond_true,Option.bind_some,Zia]) (fun a=>by simp [Jo]) b5 [] (by simp;omega)
    simp only [Kd,h,Option.bind_some,List.nil_append]
  have d1:=Zap (t:=4) (f:=fun x0=>Kc x0 p) (b:=be p.Events 1) hD (p.Pages.flatMap (fun x=>Zbk 1 (Zbr x)) ++ p.Procs.flatMap (fun x=>Zbk 2 (Zce x)) ++ p.Ports.flatMap (fun x=>Zbk 3 (Zc5 x))) (by rw [List.length_append,List.length_append];omega) (by decide) (by decide) (by rw [Kg];omega)
  have d2:=Zap (t:=5) (f:=fun x0=>Kd x0 p) (b:=p.Sems.flatMap Zia) hE (p.Pages.flatMap (fun x=>Zbk 1 (Zbr x)) ++ p.Procs.flatMap (fun x=>Zbk 2 (Zce x)) ++ p.Ports.flatMap (fun x=>Zbk 3 (Zc5 x)) ++ Zbk 4 (be p.Events 1)) (by simp only [List.length_append,Gt,Kg];omega) (by decide) (by decide) (by omega)
  simp only [Ww,e0,hA,hB,hC,d1,d2,Option.bind_some]
  simp only [Hd,List.append_assoc]
theorem Zc9 {p : GPlan} (ok : OkK p) : (Hd p).length ≤ 4000:=by
  have b1 : ∀ x ∈ p.Pages,(Zbk 1 (Zbr x)).length ≤ 68:=fun x hx=>by have:=ok.pag x hx;rw [Gt,Zc6];omega
  have b2 : ∀ x ∈ p.Procs,(Zbk 2 (Zce x)).length ≤ 9:=fun x hx=>by rw [Gt,Zc7];omega
  have b3 : ∀ x ∈ p.Ports,(Zbk 3 (Zc5 x)).length ≤ 7:=fun x hx=>by rw [Gt,Zc8];omega
  have b5 : ∀ x ∈ p.Sems,(Zia x).length ≤ 1:=fun x hx=>by rw [Zia,Kg];omega
  have l1:=Gu b1
  have l2:=Gu b2
  have l3:=Gu b3
  have l5:=Gu b5
  have k1:=ok.pg1;have k2:=ok.pr1;have k3:=ok.po1;have k5:=ok.se1
  simp only [Hd,List.length_append,Gt,Kg];omega
def Ge : List UInt8:=[Qz 70,Qz 80,Qz 76,Qz 78]
def Zid (p : GPlan) : List UInt8:=Ge ++ (be 1 2 ++ (be (((15 + (Hd p).length + 4 : Nat)) : Int) 4 ++ (be p.Id 4 ++ Zg7 p.Mobile)))
def Kh (p : GPlan) : List UInt8:=Zid p ++ Hd p
def Zfg (z : Int) : List UInt8:=[Qz z,Qz (shR .u32 z 8),Qz (shR .u32 z 16),Qz (shR .u32 z 24)]
def Ki (p : GPlan) : List UInt8:=Kh p ++ Zfg (Zfz (Kh p))
theorem Zaq (p : GPlan) : (Zid p).length=15:=by simp [Zid,Ge,Kg,Zib]
theorem Zob (b : List UInt8) (h : b.length ≤ 100000000) : Zaj b=some (b ++ Zfg (Zfz b)):=by
  have c1 : (([] : List UInt8).length + b.length) * 1 ≤ 140737488355328:=by simp;omega
  have c2 : (([] ++ b).length + (Zfg (Zfz b)).length) * 1 ≤ 140737488355328:=by simp [Zfg];omega
  have e : Hr (Zfz b)=some (Zfg (Zfz b)):=rfl
  simp only [Zaj,Vk,Zg5,e,chk,c1,c2,if_true,Option.bind_some]
  rfl
theorem Hw {p : GPlan} (h : Zab p=.nil) : Jf p=some (Ki p,.nil):=by
  have ok:=Zh6 h
  have hl:=Zc9 ok
  have e0 : Je=some (wr []):=rfl
  have w1 : IntKind.i64.wrap (IntKind.i64.wrap (15 + (((Hd p).length : Nat) : Int)) + 4)=(((15 + (Hd p).length + 4 : Nat)) : Int):=by
    rw [Xa (z:=15 + (((Hd p).length : Nat) : Int)) ⟨by omega,by omega⟩,Xa ⟨by omega,by omega⟩];omega
  have a1:=Zmm [] Ge (by simp [Ge])
  have a2:=u16_wr (n:=1) ([] ++ Ge) (by simp [Ge]) (by decide) (by decide)
  have a3:=Zml (n:=(((15 + (Hd p).length + 4 : Nat)) : Int)) ([] ++ Ge ++ be 1 2) (by simp [Ge,Kg]) (by omega) (by omega)
  have a4:=Zml (n:=p.Id) ([] ++ Ge ++ be 1 2 ++ be (((15 + (Hd p).length + 4 : Nat)) : Int) 4) (by simp [Ge,Kg]) ok.id0 (by have:=ok.id1;omega)
  have a5:=Zmn ([] ++ Ge ++ be 1 2 ++ be (((15 + (Hd p).length + 4 : Nat)) : Int) 4 ++ be p.Id 4) p.Mobile (by simp [Ge,Kg])
  have hh : [] ++ Ge ++ be 1 2 ++ be (((15 + (Hd p).length + 4 : Nat)) : Int) 4 ++ be p.Id 4 ++ Zg7 p.Mobile=Zid p:=by simp only [Zid,List.append_assoc,List.nil_append]
  rw [hh] at a5
  have a6:=Zmm (Zid p) (Hd p) (by rw [Zaq];omega)
  have a7:=Zjf (Zid p ++ Hd p) (by rw [List.length_append,Zaq];omega)
  have a8:=Zob (Kh p) (by rw [Kh,List.length_append,Zaq];omega)
  simp only [Ge] at a1 a2 a3 a4 a5
  simp only [Kh] at a8
  simp only [Jf,Hv,h,Zic ok,Zjf (Hd p) (by omega),e0,w1,a1,a2,a3,a4,a5,a6,a7,a8,decide_true,Bool.not_true,cond_false,Option.bind_some,Ki,Kh]
def Wa : GPlan:=⟨3,true,[(⟨5,⟨#[97,98]⟩⟩ : GPagePlan),(⟨3,⟨#[]⟩⟩ : GPagePlan)],[(⟨0,7,true⟩ : GProcPlan),(⟨64,9,false⟩ : GProcPlan)],[(⟨1,4,1,2⟩ : GPortPlan),(⟨4,8,2,0⟩ : GPortPlan)],1,[2]⟩
theorem Zaw : Zab Wa=.nil:=by kernel_rfl
theorem Zjg : Zb2 Wa=363:=by kernel_rfl
theorem Zie : (Ki Wa).length=69:=by kernel_rfl
theorem Zkt : Zcg ((Ki Wa).take 15)=⟨#[70,80,76,78,0,1,0,0,0,69,0,0,0,3,1]⟩:=by kernel_rfl
theorem Zmp : Zab ⟨3,true,Wa.Pages,Wa.Procs.set 1 ⟨66,9,false⟩,Wa.Ports,1,[2]⟩=.pl 1 Jg:=by kernel_rfl
theorem Zjh (p : GPlan) : Gy p=some (if Zab p=.nil then (Zb2 p,.nil) else (0,.v Gf)):=by
  by_cases h : Zab p=.nil <;> simp [Gy,Hv,Zfy,h]
theorem Ze1 : Ux=some true:=by
  have e0 : Hl=some Wa:=rfl
  have e1:=Zjh Wa
  rw [if_pos Zaw,Zjg] at e1
  have e2:=Zks Zaw
  have e3:=Hw Zaw
  have e4 : Js Wa=some .nil:=by rw [Hv,Zaw]
  have e5 : Js ⟨Wa.Id,Wa.Mobile,Wa.Pages,Wa.Procs.set 1 ⟨66,9,false⟩,Wa.Ports,Wa.Events,Wa.Sems⟩=some (.pl 1 Jg):=by
    rw [Hv];exact congrArg some Zmp
  have f1 : (Zh8 Wa).Procs.length=2:=by kernel_rfl
  have f2 : (Zh8 Wa).Ready.length=1:=by kernel_rfl
  have f3 : (Zh8 Wa).Pages.length=2:=by kernel_rfl
  have f4 : (Zh8 Wa).Pages[0]? = some (Zc4 ⟨5,⟨#[97,98]⟩⟩):=rfl
  have f5 : rdV (Zc4 ⟨5,⟨#[97,98]⟩⟩).Data 1=some 98:=by kernel_rfl
  have f6 : Wa.Procs[1]? = some ⟨64,9,false⟩:=rfl
  have f7 : (0 : Int) ≤ (15 : Int) ∧ (15 : Int) ≤ (((Ki Wa).length : Nat) : Int):=by rw [Zie];decide
  have f8 : Zcg ((Ki Wa).take (15 : Int).toNat)=⟨#[70,80,76,78,0,1,0,0,0,69,0,0,0,3,1]⟩:=Zkt
  have c4 : (ErrM.pl 1 Jg).code=4:=by rw [cPl,cRange]
  have f10 : (15 : Int) ≤ ((69 : Nat) : Int):=by decide
  have f11 : (0 : Int) ≤ 15:=by decide
  have f9 : (((98 : UInt8).toNat : Nat) : Int)=98:=by decide
  simp only [Ux,Ud,Uc,e0,e1,e2,e3,e4,e5,f1,f2,f3,f4,f5,f6,f10,f11,f8,f9,Zie,c4,pPl,chk,if_true,and_self,decide_true,Bool.not_true,cond_true,cond_false,Option.bind_some]
end Go.Proofs.YtfemfiiagjnhdaaGreatDoor
set_option linter.unusedVariables false
set_option linter.unusedSimpArgs false
set_option linter.unusedSectionVars false
namespace Go.Proofs.YtfemfiiagjnhdaaGreatDoor
open Go Go.RowKit
structure Sees (c : GWireCursor) (l : List UInt8) : Prop where
  ok : OkCur c
  eq : cut c.b_ c.at_.toNat (c.bound_ - c.at_).toNat=l
theorem Sees.left {c : GWireCursor} {l : List UInt8} (h : Sees c l) : c.bound_ - c.at_=((l.length : Nat) : Int):=by
  obtain⟨⟨h1,h2,h3,h4⟩,he⟩:=h
  have:=Zje (b:=c.b_) (a:=c.at_.toNat) (n:=(c.bound_ - c.at_).toNat) (by omega)
  rw [he] at this;omega
theorem Zg8 {b l r : List UInt8} {a n : Nat} (h : cut b a n=l ++ r) : cut b a l.length=l:=by
  have h1 : (cut b a n).take l.length=l:=by rw [h];simp
  have hn : l.length ≤ n:=by
    have:=congrArg List.length h
    have h2:=Zh5 b a n
    rw [List.length_append] at this;omega
  rw [cut,List.take_take,Nat.min_eq_left hn] at h1
  exact h1
theorem Zoc {b l r : List UInt8} {a n : Nat} (h : cut b a n=l ++ r) : cut b (a + l.length) (n - l.length)=r:=by
  have h1 : (cut b a n).drop l.length=r:=by rw [h];simp
  rw [cut,List.drop_take,List.drop_drop] at h1
  exact h1
theorem Sees.behind {c : GWireCursor} {l r : List UInt8} (h : Sees c (l ++ r)) : Sees ⟨c.b_,c.at_ + ((l.length : Nat) : Int),c.bound_⟩ r:=by
  have hl:=h.left
  rw [List.length_append] at hl
  obtain⟨⟨h1,h2,h3,h4⟩,he⟩:=h
  refine⟨⟨by simp only;omega,by simp only;omega,h3,h4⟩,?_⟩
  have:=Zoc he
  simp only
  rw [show (c.at_ + ((l.length : Nat) : Int)).toNat=c.at_.toNat + l.length by omega,show (c.bound_ - (c.at_ + ((l.length : Nat) : Int))).toNat=(c.bound_ - c.at_).toNat - l.length by omega]
  exact this
theorem Sees.part {c : GWireCursor} {l r : List UInt8} (h : Sees c (l ++ r)) : Sees ⟨c.b_,c.at_,c.at_ + ((l.length : Nat) : Int)⟩ l:=by
  have hl:=h.left
  rw [List.length_append] at hl
  obtain⟨⟨h1,h2,h3,h4⟩,he⟩:=h
  refine⟨⟨h1,by simp only;omega,by simp only;omega,h4⟩,?_⟩
  have:=Zg8 he
  simp only
  rw [show (c.at_ + ((l.length : Nat) : Int) - c.at_).toNat=l.length by omega]
  exact this
theorem Zdp : ∀ (l : List UInt8) (z : Int),l.foldl (fun n b=>n * 256 + (b.toNat : Int)) z=z * 256 ^ l.length + Yb l
  | [],z=>by simp [Yb]
  | c :: r,z=>by
    have h1:=Zdp r (z * 256 + (c.toNat : Int))
    have h2:=Zdp r (0 * 256 + (c.toNat : Int))
    have e : Yb (c :: r)=(0 * 256 + (c.toNat : Int)) * 256 ^ r.length + Yb r:=h2
    rw [List.foldl_cons,h1,e,List.length_cons,Int.pow_succ]
    generalize (256 : Int) ^ r.length=t
    rw [Int.add_mul,Int.add_mul,Int.mul_assoc,Int.mul_comm 256 t,Int.zero_mul,Int.zero_mul]
    omega
theorem Zku (c : UInt8) (r : List UInt8) : Yb (c :: r)=(c.toNat : Int) * 256 ^ r.length + Yb r:=by
  rw [Yb,List.foldl_cons,Zdp];simp
theorem Zmq (a k : Nat) (hk : k ≤ 64) : shR .i64 (a : Int) (k : Int)=((a / 2 ^ k : Nat) : Int):=by
  unfold shR
  rw [Int.toNat_natCast,show min k IntKind.i64.bits=k from Nat.min_eq_left hk,Int.fdiv_eq_ediv_of_nonneg _ (Int.le_of_lt (Int.pow_pos (by decide)))]
  simp
theorem Zif (n : Nat) : ∀ k,k ≤ 8 → Yb (be (n : Int) k)=((n % 256 ^ k : Nat) : Int)
  | 0,_=>by simp [be,Yb,Nat.mod_one]
  | k + 1,hk=>by
    have hb:=Tr (((n / 2 ^ (8 * k) : Nat) : Int))
    have e2 : (2 : Nat) ^ (8 * k)=256 ^ k:=by rw [Nat.pow_mul]
    rw [be,Zku,Kg,Zif n k (by omega),Zmq _ _ (by omega),hb,e2,Nat.pow_succ,Nat.mod_mul]
    have e3 : (((n / 256 ^ k : Nat) : Int)) % 256=((n / 256 ^ k % 256 : Nat) : Int):=by omega
    rw [e3,Int.natCast_add,Int.natCast_mul,Int.natCast_pow,Int.mul_comm,Int.add_comm]
    rfl
theorem Zg9 {n : Int} {k : Nat} {m : Int} (hk : k ≤ 8) (h0 : 0 ≤ n) (h1 : n ≤ m) (hm : m < 256 ^ k) : Yb (be n k)=n:=by
  obtain⟨j,rfl⟩:=Int.eq_ofNat_of_zero_le h0
  rw [Zif j k hk,Nat.mod_eq_of_lt]
  have : (j : Int) < ((256 ^ k : Nat) : Int):=by rw [Int.natCast_pow];exact Int.lt_of_le_of_lt h1 hm
  omega
abbrev adv (c : GWireCursor) (k : Int) : GWireCursor:=⟨c.b_,c.at_ + k,c.bound_⟩
def Qr (c : GWireCursor) (k : Nat) (lo hi : Int) : Int × ErrM × GWireCursor:=
  if c.bound_ - c.at_ < (k : Int) then (0,.pl c.at_ Yc,c)
  else if Yb (cut c.b_ c.at_.toNat k) < lo ∨ hi < Yb (cut c.b_ c.at_.toNat k) then (0,.pl c.at_ Jg,c)
  else (Yb (cut c.b_ c.at_.toNat k),.nil,adv c k)
theorem Zdq (c : GWireCursor) (k : Nat) (lo hi : Int) (hk : k=1 ∨ k=2 ∨ k=4) (h : OkCur c) : Qb c (k : Int) lo hi=some (Qr c k lo hi):=by
  have e1 : Jt c.at_ (.v Yc)=some (.pl c.at_ Yc):=rfl
  have e2 : Jt c.at_ (.v Jg)=some (.pl c.at_ Jg):=rfl
  have e3 : (((!decide ((k : Int)=1)) && (!decide ((k : Int)=2))) && (!decide ((k : Int)=4)))=false:=by rcases hk with rfl | rfl | rfl <;> rfl
  unfold Qr
  by_cases h1 : c.bound_ - c.at_ < (k : Int)
  · simp only [Ql,Qb,e3,cond_false,Km c h,Option.bind_some,h1,decide_true,cond_true,e1,if_true]
  · have hp:=Zg6 c 0 k (by omega) h (by have:=h.bl;omega)
    rw [Nat.add_zero] at hp
    have hp' : Qv c 0 (k : Int)=some (Yb (cut c.b_ c.at_.toNat k),c):=hp
    have hw : IntKind.i64.wrap (c.at_ + (k : Int))=c.at_ + (k : Int):=by
      obtain⟨k1,k2,k3,k4⟩:=h
      exact Xa ⟨by omega,by omega⟩
    by_cases h2 : Yb (cut c.b_ c.at_.toNat k) < lo
    · simp only [Ql,Qb,e3,cond_false,Km c h,Option.bind_some,h1,hp',h2,e2,decide_true,decide_false,Bool.true_or,cond_true,true_or,if_true,if_false]
    · by_cases h3 : hi < Yb (cut c.b_ c.at_.toNat k)
      · simp only [Ql,Qb,e3,cond_false,Km c h,Option.bind_some,h1,hp',h2,h3,e2,decide_true,decide_false,Bool.or_true,cond_true,or_true,if_true,if_false]
      · simp only [Ql,Qb,e3,cond_false,Km c h,Option.bind_some,h1,hp',h2,h3,hw,decide_false,Bool.or_false,cond_false,or_false,if_false]
theorem To (c : GWireCursor) (h : OkCur c) : Xc c=some (Qr c 1 0 255):=by
  have e:=Zdq c 1 0 255 (by omega) h
  simp only [Ql,Xc,Zn3,Option.bind_some]
  rw [show Qb c 1 0 255=_ from e]
  unfold Qr;split
  · rfl
  · split <;> rfl
theorem Zdr (c : GWireCursor) (h : OkCur c) : Jp c=some (Qr c 4 0 4294967295):=by
  have e:=Zdq c 4 0 4294967295 (by omega) h
  simp only [Ql,Jp,most4,Option.bind_some]
  rw [show Qb c 4 0 4294967295=_ from e]
  unfold Qr;split
  · rfl
  · split <;> rfl
def Zji (c : GWireCursor) : Bool × ErrM × GWireCursor:=(decide ((Qr c 1 0 1).1=1),(Qr c 1 0 1).2.1,(Qr c 1 0 1).2.2)
theorem Zej (c : GWireCursor) (h : OkCur c) : Jx c=some (Zji c):=by
  have e:=Zdq c 1 0 1 (by omega) h
  simp only [Ql,Jx]
  rw [show Qb c 1 0 1=_ from e]
  unfold Zji Qr;split
  · rfl
  · split <;> rfl
theorem Ku {c : GWireCursor} {k : Nat} {lo hi : Int} (h : OkCur c) : OkCur (Qr c k lo hi).2.2 ∧ (Qr c k lo hi).2.2.b_=c.b_ ∧ (Qr c k lo hi).2.2.bound_=c.bound_ ∧ c.at_ ≤ (Qr c k lo hi).2.2.at_:=by
  have ok:=h
  obtain⟨k1,k2,k3,k4⟩:=h
  unfold Qr;split
  · exact⟨ok,rfl,rfl,Int.le_refl _⟩
  · split
    · exact⟨ok,rfl,rfl,Int.le_refl _⟩
    · exact⟨⟨by simp only;omega,by simp only;omega,k3,k4⟩,rfl,rfl,by simp only;omega⟩
def Zim (c : GWireCursor) (n : Nat) : List UInt8 × ErrM × GWireCursor:=
  if c.bound_ - c.at_ < (n : Int) then ([],.pl c.at_ Yc,c) else (cut c.b_ c.at_.toNat n,.nil,adv c n)
theorem Zds (c : GWireCursor) (n : Nat) (h : OkCur c) : Qu c (n : Int)=some (Zim c n):=by
  have e1 : Jt c.at_ (.v Yc)=some (.pl c.at_ Yc):=rfl
  have e0 : ¬ (n : Int) < 0:=by omega
  unfold Zim
  by_cases h1 : c.bound_ - c.at_ < (n : Int)
  · simp only [Ql,Qu,e0,cond_false,Km c h,Option.bind_some,h1,decide_true,decide_false,cond_true,e1,if_true]
  · have ok:=h
    obtain⟨k1,k2,k3,k4⟩:=h
    have hw : IntKind.i64.wrap (c.at_ + (n : Int))=c.at_ + (n : Int):=Xa ⟨by omega,by omega⟩
    have hc : 0 ≤ c.at_ ∧ c.at_ ≤ c.at_ + (n : Int) ∧ c.at_ + (n : Int) ≤ ((c.b_.length : Nat) : Int):=⟨k1,by omega,by omega⟩
    have hn : (c.at_ + (n : Int)).toNat - c.at_.toNat=n:=by omega
    have hl:=Zje (b:=c.b_) (a:=c.at_.toNat) (n:=n) (by omega)
    have hcl : Qy ((c.b_.drop c.at_.toNat).take n)=some (cut c.b_ c.at_.toNat n):=by
      have c1 : (([] : List UInt8).length + ((c.b_.drop c.at_.toNat).take n).length) * 1 ≤ 140737488355328:=by
        rw [show (c.b_.drop c.at_.toNat).take n=cut c.b_ c.at_.toNat n from rfl,hl];simp only [List.length_nil];omega
      simp only [Qy,chk,c1,if_true,List.nil_append];rfl
    simp only [Ql,Qu,e0,cond_false,Km c ok,Option.bind_some,h1,hw,hc,hn,hcl,chk,and_self,decide_false,if_true,if_false]
theorem Zjj {c : GWireCursor} {n : Nat} (h : OkCur c) : OkCur (Zim c n).2.2 ∧ (Zim c n).2.2.b_=c.b_ ∧ (Zim c n).2.2.bound_=c.bound_ ∧ c.at_ ≤ (Zim c n).2.2.at_ ∧ (Zim c n).1.length ≤ n:=by
  have ok:=h
  obtain⟨k1,k2,k3,k4⟩:=h
  unfold Zim;split
  · exact⟨ok,rfl,rfl,Int.le_refl _,Nat.zero_le _⟩
  · exact⟨⟨by simp only;omega,by simp only;omega,k3,k4⟩,rfl,rfl,by simp only;omega,Zh5 _ _ _⟩
def Zqe (c : GWireCursor) : ErrM × GWireCursor:=if 0 < c.bound_ - c.at_ then (.pl c.at_ Zkn,c) else (.nil,c)
theorem Zdt (c : GWireCursor) (h : OkCur c) : Xv c=some (Zqe c):=by
  have e1 : Jt c.at_ (.v Zkn)=some (.pl c.at_ Zkn):=rfl
  unfold Zqe
  by_cases h1 : 0 < c.bound_ - c.at_
  · simp only [Ql,Xv,Km c h,Option.bind_some,h1,decide_true,cond_true,e1,if_true]
  · simp only [Ql,Xv,Km c h,Option.bind_some,h1,decide_false,cond_false,if_false]
theorem Sees.num {c : GWireCursor} {n : Int} {k : Nat} {r : List UInt8} {lo hi : Int} (h : Sees c (be n k ++ r)) (hk : k ≤ 4) (h0 : lo ≤ n) (h1 : n ≤ hi) (l0 : 0 ≤ n) (l1 : hi < 256 ^ k) : Qr c k lo hi=(n,.nil,adv c k) ∧ Sees (adv c k) r:=by
  have hl:=h.left
  rw [List.length_append,Kg] at hl
  have hb:=h.behind
  rw [Kg] at hb
  refine⟨?_,hb⟩
  have hc:=Zg8 h.eq
  rw [Kg] at hc
  unfold Qr
  rw [if_neg (by omega),hc,Zg9 (m:=hi) (by omega) l0 h1 l1,if_neg (by omega)]
theorem Sees.num0 {c : GWireCursor} {n : Int} {k : Nat} {lo hi : Int} (h : Sees c (be n k)) (hk : k ≤ 4) (h0 : lo ≤ n) (h1 : n ≤ hi) (l0 : 0 ≤ n) (l1 : hi < 256 ^ k) : Qr c k lo hi=(n,.nil,adv c k) ∧ Sees (adv c k) []:=
  Sees.num (r:=[]) (by rw [List.append_nil];exact h) hk h0 h1 l0 l1
theorem Zod (b : Bool) : Zg7 b=be (if b=true then 1 else 0) 1:=by cases b <;> rfl
theorem Sees.flag {c : GWireCursor} {b : Bool} {r : List UInt8} (h : Sees c (Zg7 b ++ r)) : Zji c=(b,.nil,adv c 1) ∧ Sees (adv c 1) r:=by
  rw [Zod] at h
  obtain⟨h1,h2⟩:=h.num (lo:=0) (hi:=1) (by omega) (by split <;> omega) (by split <;> omega) (by split <;> omega) (by decide)
  refine⟨?_,h2⟩
  unfold Zji
  rw [h1]
  cases b <;> rfl
theorem Sees.raw {c : GWireCursor} {l : List UInt8} (h : Sees c l) : Zim c (c.bound_ - c.at_).toNat=(l,.nil,adv c l.length) ∧ Sees (adv c l.length) []:=by
  have hl:=h.left
  have hb:=Sees.behind (l:=l) (r:=[]) (by rw [List.append_nil];exact h)
  refine⟨?_,hb⟩
  unfold Zim
  rw [if_neg (by omega),h.eq,hl,Int.toNat_natCast]
theorem Sees.ended {c : GWireCursor} (h : Sees c []) : Zqe c=(.nil,c):=by
  have hl:=h.left
  unfold Zqe
  rw [if_neg (by rw [hl];simp)]
theorem Sees.next {c : GWireCursor} {t : Int} {b r : List UInt8} (h : Sees c (Zbk t b ++ r)) (h0 : 1 ≤ t) (h1 : t ≤ 255) (hb : b.length ≤ 65535) :
    ∃ d,Hc c=(t,some d,.nil,adv c (3 + (b.length : Int))) ∧ Sees d b ∧ d.b_=c.b_ ∧ Sees (adv c (3 + (b.length : Int))) r:=by
  have hl:=h.left
  rw [List.length_append,Gt] at hl
  have e : Zbk t b ++ r=be t 1 ++ (be (b.length : Int) 2 ++ (b ++ r)):=by simp only [Zbk,List.append_assoc]
  rw [e] at h
  have c1:=Zg8 h.eq
  rw [Kg] at c1
  have k1:=h.behind
  rw [Kg] at k1
  have c2:=Zg8 k1.eq
  rw [Kg] at c2
  have k2:=k1.behind
  rw [Kg] at k2
  have k3:=k2.part
  have k4:=k2.behind
  have ha:=h.ok.a0
  have n1 : Yb (cut c.b_ c.at_.toNat 1)=t:=by rw [c1];exact Zg9 (m:=255) (by omega) (by omega) h1 (by decide)
  have n2 : Yb (cut c.b_ (c.at_.toNat + 1) 2)=(b.length : Int):=by
    have : (c.at_ + ((1 : Nat) : Int)).toNat=c.at_.toNat + 1:=by omega
    simp only [this] at c2
    rw [c2];exact Zg9 (m:=65535) (by omega) (by omega) (by omega) (by decide)
  refine⟨⟨c.b_,c.at_ + 3,c.at_ + 3 + (b.length : Int)⟩,?_,?_,rfl,?_⟩
  · unfold Hc
    rw [if_neg (by omega),n1,n2,if_neg (by omega),if_neg (by omega)]
    simp only [adv,Int.add_assoc]
  · have : c.at_ + ((1 : Nat) : Int) + ((2 : Nat) : Int)=c.at_ + 3:=by omega
    simpa only [this] using k3
  · have : c.at_ + ((1 : Nat) : Int) + ((2 : Nat) : Int) + (b.length : Int)=c.at_ + (3 + (b.length : Int)):=by omega
    simpa only [this] using k4
end Go.Proofs.YtfemfiiagjnhdaaGreatDoor
set_option linter.unusedVariables false
set_option linter.unusedSimpArgs false
set_option linter.unusedSectionVars false
namespace Go.Proofs.YtfemfiiagjnhdaaGreatDoor
open Go Go.RowKit
theorem Zjk {p q : Prop} [Decidable p] [Decidable q] (h : p ↔ q) : decide p=decide q:=by
  by_cases hp : p
  · rw [decide_eq_true hp,decide_eq_true (h.1 hp)]
  · rw [decide_eq_false hp,decide_eq_false fun hq=>hp (h.2 hq)]
section
variable {α : Type}
theorem Ze2 (q : α → Bool) : ∀ (l : List α) (k : Nat),Ju (fun _ x=>if q x=true then none else some false) k l=if l.all q=true then none else some false
  | [],_=>rfl
  | x :: r,k=>by
    have ih:=Ze2 q r (k + 1)
    rcases Bool.eq_false_or_eq_true (q x) with h|h <;> simp [Ju,h,ih]
theorem Zmr {L : Nat → Option (Nat ⊕ (Unit ⊕ Bool))} {a b : List α} (q : α → α → Bool) (hl : a.length=b.length)
    (h : ∀ i x y,i < a.length → a[i]? = some x → b[i]? = some y → L i=some (if q x y=true then .inl (i + 1) else .inr (.inr false))) (h2 : L a.length=some (.inr (.inl ()))) :
    Ur L 0=some (if (a.zip b).all (fun p=>q p.1 p.2)=true then .inl () else .inr false):=by
  have hz : (a.zip b).length=a.length:=by rw [List.length_zip,← hl,Nat.min_self]
  have hL:=Ua (L:=L) (l:=a.zip b) (f:=fun _ p=>if q p.1 p.2=true then none else some false) (fun i p hi hp=>by
    obtain⟨h3,h4⟩:=List.getElem?_zip_eq_some.1 hp
    rw [h i p.1 p.2 (by omega) h3 h4,Zg3,Zbj,Tv]) (by rw [hz];exact h2)
  rw [hL,Ze2 (fun p : α × α=>q p.1 p.2)]
  split <;> rfl
theorem Zjl [DecidableEq α] : ∀ {a b : List α},a.length=b.length → (((a.zip b).all fun p=>decide (p.1=p.2))=true ↔ a=b)
  | [],[],_=>by simp
  | [],y :: b,h=>by simp at h
  | x :: a,[],h=>by simp at h
  | x :: a,y :: b,h=>by
    have ih:=Zjl (a:=a) (b:=b) (by simpa using h)
    simp only [List.zip_cons_cons,List.all_cons,Bool.and_eq_true,decide_eq_true_eq,List.cons.injEq,ih]
theorem Zda {L : Nat → Option (Nat ⊕ (Unit ⊕ Bool))} {a b : List α} [DecidableEq α] (hl : a.length=b.length)
    (h : ∀ i x y,i < a.length → a[i]? = some x → b[i]? = some y → L i=some (if decide (x=y)=true then .inl (i + 1) else .inr (.inr false))) (h2 : L a.length=some (.inr (.inl ()))) :
    Ur L 0=some (if a=b then .inl () else .inr false):=by
  rw [Zmr (fun x y=>decide (x=y)) hl h h2]
  congr 1
  by_cases e : a=b
  · rw [if_pos e,if_pos ((Zjl hl).2 e)]
  · rw [if_neg e,if_neg (fun h=>e ((Zjl hl).1 h))]
end
theorem Ze3 {α : Type} {a b : List α} (h : ¬ a.length=b.length) : ¬ a=b:=fun e=>h (by rw [e])
abbrev Zig : Nat:=140737488355328
def Zha (p : GPlan) : Prop:=p.Pages.length * 24 ≤ Zig ∧ p.Procs.length * 24 ≤ Zig ∧ p.Ports.length * 32 ≤ Zig ∧ p.Sems.length * 8 ≤ Zig
theorem Zms (p : GPlan) (h : Zha p) : Ht p=some p:=by
  obtain⟨h1,h2,h3,h4⟩:=h
  simp only [Zig] at *
  simp only [Ht,List.nil_append,List.length_nil,Nat.zero_add,chk,h1,h2,h3,h4,if_true]
theorem Zmt (a b : GPlan) : a=b ↔ a.Id=b.Id ∧ a.Mobile=b.Mobile ∧ a.Pages=b.Pages ∧ a.Procs=b.Procs ∧ a.Ports=b.Ports ∧ a.Events=b.Events ∧ a.Sems=b.Sems:=by
  cases a;cases b;simp
theorem Zih (a b : GPlan) : Vu a b=some (decide (a=b)):=by
  rw [Zjk (Zmt a b)]
  by_cases l4 : a.Pages.length=b.Pages.length
  · by_cases l3 : a.Procs.length=b.Procs.length
    · by_cases l2 : a.Ports.length=b.Ports.length
      · by_cases l1 : a.Sems.length=b.Sems.length
        · have h4:=Zda (L:=Wo a b) l4 (fun i x y hi hx hy=>by
            simp only [Wo,hi,hx,hy,decide_true,cond_true,Option.bind_some]
            by_cases e : x=y <;> simp [e]) (by simp [Wo])
          have h3:=Zda (L:=Wn a b) l3 (fun i x y hi hx hy=>by
            simp only [Wn,hi,hx,hy,decide_true,cond_true,Option.bind_some]
            by_cases e : x=y <;> simp [e]) (by simp [Wn])
          have h2:=Zda (L:=Wm a b) l2 (fun i x y hi hx hy=>by
            simp only [Wm,hi,hx,hy,decide_true,cond_true,Option.bind_some]
            by_cases e : x=y <;> simp [e]) (by simp [Wm])
          have h1:=Zda (L:=Wl a b) l1 (fun i x y hi hx hy=>by
            simp only [Wl,hi,hx,hy,decide_true,cond_true,Option.bind_some]
            by_cases e : x=y <;> simp [e]) (by simp [Wl])
          simp only [Vu,l1,l2,l3,l4,h1,h2,h3,h4,Option.bind_some,decide_true,Bool.not_true,Bool.or_false,Bool.cond_eq_ite]
          by_cases e1 : a.Id=b.Id <;> by_cases e2 : a.Mobile=b.Mobile <;> by_cases e3 : a.Events=b.Events <;> simp [e1,e2,e3]
          by_cases e4 : a.Pages=b.Pages
          · by_cases e5 : a.Procs=b.Procs
            · by_cases e6 : a.Ports=b.Ports
              · by_cases e7 : a.Sems=b.Sems <;> simp [e4,e5,e6,e7]
              · simp [e4,e5,e6]
            · simp [e4,e5]
          · simp [e4]
        · simp [Vu,l1,Ze3 l1]
      · simp [Vu,l2,Ze3 l2]
    · simp [Vu,l3,Ze3 l3]
  · simp [Vu,l4,Ze3 l4]
end Go.Proofs.YtfemfiiagjnhdaaGreatDoor
set_option linter.unusedVariables false
set_option linter.unusedSimpArgs false
set_option linter.unusedSectionVars false
namespace Go.Proofs.YtfemfiiagjnhdaaGreatDoor
open Go Go.RowKit
def Zoe : Nat:=3988292384
def stepN (x : Nat) : Nat:=if x % 2=1 then (x / 2) ^^^ Zoe else x / 2
def itN : Nat → Nat → Nat
  | 0,x=>x
  | k + 1,x=>itN k (stepN x)
theorem Zof (a b : Nat) : (a ^^^ b) / 2=(a / 2) ^^^ (b / 2):=by
  apply Nat.eq_of_testBit_eq
  intro i
  rw [Nat.testBit_xor,Nat.testBit_div_two,Nat.testBit_div_two,Nat.testBit_div_two,Nat.testBit_xor]
theorem Zqf (a b : Nat) : (a ^^^ b) % 2=(a + b) % 2:=by
  have h0:=Nat.testBit_xor a b 0
  rw [Nat.testBit_zero,Nat.testBit_zero,Nat.testBit_zero] at h0
  have hm : (a + b) % 2=(a % 2 + b % 2) % 2:=Nat.add_mod a b 2
  have hz:=Nat.mod_two_eq_zero_or_one (a ^^^ b)
  generalize (a ^^^ b) % 2=z at *
  rcases Nat.mod_two_eq_zero_or_one a with ha|ha <;> rcases Nat.mod_two_eq_zero_or_one b with hb|hb <;> rw [ha,hb] at h0 hm <;> rw [hm] <;> rcases hz with rfl|rfl <;> simp at h0 ⊢
theorem Zmu (a b : Nat) : stepN (a ^^^ b)=stepN a ^^^ stepN b:=by
  unfold stepN
  rw [Zof,Zqf]
  rcases Nat.mod_two_eq_zero_or_one a with ha|ha <;> rcases Nat.mod_two_eq_zero_or_one b with hb|hb
  · rw [if_neg (by omega),if_neg (by omega),if_neg (by omega)]
  · rw [if_pos (by omega),if_neg (by omega),if_pos (by omega),Nat.xor_assoc]
  · rw [if_pos (by omega),if_pos (by omega),if_neg (by omega),Nat.xor_assoc,Nat.xor_assoc,Nat.xor_comm Zoe]
  · rw [if_neg (by omega),if_pos (by omega),if_pos (by omega),Nat.xor_assoc,← Nat.xor_assoc Zoe,Nat.xor_comm Zoe (b / 2),Nat.xor_assoc (b / 2),Nat.xor_self,Nat.xor_zero]
theorem Zmv : ∀ (k a b : Nat),itN k (a ^^^ b)=itN k a ^^^ itN k b
  | 0,_,_=>rfl
  | k + 1,a,b=>by rw [itN,Zmu,Zmv k];rfl
theorem Zmw : ∀ (k x : Nat),itN k (2 ^ k * x)=x
  | 0,x=>by rw [Nat.pow_zero,Nat.one_mul];rfl
  | k + 1,x=>by
    have e : 2 ^ (k + 1) * x=2 * (2 ^ k * x):=by rw [Nat.pow_succ];rw [Nat.mul_comm (2 ^ k) 2,Nat.mul_assoc]
    have h : stepN (2 ^ (k + 1) * x)=2 ^ k * x:=by
      unfold stepN
      rw [if_neg (by rw [e];omega),e,Nat.mul_div_cancel_left _ (by decide)]
    rw [itN,h,Zmw k x]
theorem Tw {x : Nat} (h : x < 4294967296) : stepN x < 4294967296:=by
  unfold stepN
  split
  · exact Nat.xor_lt_two_pow (n:=32) (by omega) (by decide)
  · omega
theorem Zmx : ∀ (k : Nat) {x : Nat},x < 4294967296 → itN k x < 4294967296
  | 0,_,h=>h
  | k + 1,_,h=>Zmx k (Tw h)
def moveN (z : Nat) (c : UInt8) : Nat:=itN 8 (z ^^^ c.toNat)
theorem Zog {z : Nat} (c : UInt8) (h : z < 4294967296) : moveN z c < 4294967296:=Zmx 8 (Nat.xor_lt_two_pow (n:=32) h (by have:=c.toNat_lt;omega))
theorem Zdb {x : Nat} (h : x < 4294967296) : IntKind.u32.wrap (x : Int)=(x : Int):=by
  have : IntKind.u32.wrap (x : Int)=(x : Int) % 4294967296:=by simp [IntKind.wrap,IntKind.signed,IntKind.bits]
  rw [this];omega
theorem Zkb (x : Nat) : IntKind.u8.wrap (x : Int)=((x % 256 : Nat) : Int):=by
  have : IntKind.u8.wrap (x : Int)=(x : Int) % 256:=by simp [IntKind.wrap,IntKind.signed,IntKind.bits]
  rw [this];omega
theorem Zdu {a b : Nat} (ha : a < 4294967296) (hb : b < 4294967296) : Gg .u32 (a : Int) (b : Int)=((a ^^^ b : Nat) : Int):=by
  have h : (BitVec.ofInt IntKind.u32.bits (a : Int) ^^^ BitVec.ofInt IntKind.u32.bits (b : Int)).toNat=a ^^^ b:=by
    rw [show IntKind.u32.bits=32 from rfl,BitVec.toNat_xor,BitVec.ofInt_natCast,BitVec.ofInt_natCast,BitVec.toNat_ofNat,BitVec.toNat_ofNat,Nat.mod_eq_of_lt (by omega),Nat.mod_eq_of_lt (by omega)]
  unfold Gg
  rw [h]
  exact Zdb (Nat.xor_lt_two_pow (n:=32) ha hb)
theorem Zjm {a b : Nat} (ha : a < 256) (hb : b < 256) : Gg .u8 (a : Int) (b : Int)=((a ^^^ b : Nat) : Int):=by
  have h : (BitVec.ofInt IntKind.u8.bits (a : Int) ^^^ BitVec.ofInt IntKind.u8.bits (b : Int)).toNat=a ^^^ b:=by
    rw [show IntKind.u8.bits=8 from rfl,BitVec.toNat_xor,BitVec.ofInt_natCast,BitVec.ofInt_natCast,BitVec.toNat_ofNat,BitVec.toNat_ofNat,Nat.mod_eq_of_lt (by omega),Nat.mod_eq_of_lt (by omega)]
  unfold Gg
  rw [h,Zkb,Nat.mod_eq_of_lt (Nat.xor_lt_two_pow (n:=8) ha hb)]
theorem Zjn {a : Nat} (ha : a < 4294967296) : Zhm .u32 (a : Int) 1=((a % 2 : Nat) : Int):=by
  have h : (BitVec.ofInt IntKind.u32.bits (a : Int) &&& BitVec.ofInt IntKind.u32.bits 1).toNat=a % 2:=by
    rw [show IntKind.u32.bits=32 from rfl,BitVec.toNat_and,BitVec.ofInt_natCast,show (1 : Int)=((1 : Nat) : Int) from rfl,BitVec.ofInt_natCast,BitVec.toNat_ofNat,BitVec.toNat_ofNat,Nat.mod_eq_of_lt (by omega),show 1 % 2 ^ 32=1 from by decide,Nat.and_one_is_mod]
  unfold Zhm
  rw [h]
  exact Zdb (by omega)
theorem Ze4 (a k : Nat) (hk : k ≤ 32) : shR .u32 (a : Int) (k : Int)=((a / 2 ^ k : Nat) : Int):=by
  unfold shR
  rw [Int.toNat_natCast,show min k IntKind.u32.bits=k from Nat.min_eq_left hk,Int.fdiv_eq_ediv_of_nonneg _ (Int.le_of_lt (Int.pow_pos (by decide)))]
  simp
theorem He {x : Nat} (h : x < 4294967296) : Zdn (x : Int)=(stepN x : Int):=by
  unfold Zdn stepN
  have h1:=Ze4 x 1 (by decide)
  rw [Zjn h,show (1 : Int)=((1 : Nat) : Int) from rfl,h1,Nat.pow_one]
  by_cases e : x % 2=1
  · rw [if_pos (by omega),if_pos e]
    exact Zdu (by omega) (by decide)
  · rw [if_neg (by omega),if_neg e]
theorem Zoh {x : Nat} (h : x < 4294967296) : Zn5 (x : Int)=(itN 8 x : Int):=by
  unfold Zn5
  have l1:=Tw h
  have l2:=Tw l1
  have l3:=Tw l2
  have l4:=Tw l3
  have l5:=Tw l4
  have l6:=Tw l5
  have l7:=Tw l6
  rw [He h,He l1,He l2,He l3,He l4,He l5,He l6,He l7]
  rfl
theorem split8 (z : Nat) : z=(z % 256) ^^^ (2 ^ 8 * (z / 256)):=by
  apply Nat.eq_of_testBit_eq
  intro i
  rw [Nat.testBit_xor,show (256 : Nat)=2 ^ 8 from rfl,Nat.testBit_mod_two_pow,Nat.testBit_two_pow_mul,Nat.testBit_div_two_pow]
  by_cases h : i < 8
  · simp [h,show ¬ 8 ≤ i by omega]
  · simp [h,show 8 ≤ i by omega,show i - 8 + 8=i by omega]
theorem Zmy {z : Nat} (c : UInt8) (h : z < 4294967296) : Zjd (z : Int) c=(moveN z c : Int):=by
  have hc:=c.toNat_lt
  have hx : (z % 256) ^^^ c.toNat < 256:=Nat.xor_lt_two_pow (n:=8) (by omega) (by omega)
  have hs : shR .u32 (z : Int) 8=((z / 256 : Nat) : Int):=Ze4 z 8 (by decide)
  unfold Zjd
  rw [Zkb,Zjm (by omega) (by omega),Zdb (by omega),Zoh (by omega),hs,Zdu (Zmx 8 (by omega)) (by omega)]
  congr 1
  unfold moveN
  conv=>rhs;rw [split8 z,Nat.xor_assoc,Nat.xor_comm _ c.toNat,← Nat.xor_assoc,Zmv,Zmw]
theorem Zhb : ∀ (l : List UInt8) {z : Nat},z < 4294967296 → l.foldl Zjd (z : Int)=((l.foldl moveN z : Nat) : Int) ∧ l.foldl moveN z < 4294967296
  | [],_,h=>⟨rfl,h⟩
  | c :: r,z,h=>by
    rw [List.foldl_cons,List.foldl_cons,Zmy c h]
    exact Zhb r (Zog c h)
def regN (b : List UInt8) : Nat:=b.foldl moveN 4294967295
theorem Zmz (b : List UInt8) : regN b < 4294967296:=(Zhb b (by decide)).2
theorem Zoi {r : Nat} (h : r < 4294967296) : Znb .u32 (r : Int)=((4294967295 ^^^ r : Nat) : Int):=by
  have e : Znb .u32 (r : Int)=Gg .u32 ((4294967295 : Nat) : Int) (r : Int):=rfl
  rw [e]
  exact Zdu (by decide) h
def sumN (b : List UInt8) : Nat:=4294967295 ^^^ regN b
theorem Zqg (b : List UInt8) : sumN b < 4294967296:=Nat.xor_lt_two_pow (n:=32) (by decide) (Zmz b)
theorem Zoj (b : List UInt8) : Zfz b=((sumN b : Nat) : Int):=by
  unfold Zfz
  have h0 : Znb .u32 0=((4294967295 : Nat) : Int):=by decide
  obtain⟨h1,h2⟩:=Zhb b (z:=4294967295) (by decide)
  rw [h0,h1]
  exact Zoi (Zmz b)
def Zjo (z : Int) : List UInt8:=[Qz z,Qz (shR .u32 z 8),Qz (shR .u32 z 16),Qz (shR .u32 z 24)]
theorem Zbl (x : Nat) : (Qz (x : Int)).toNat=x % 256:=by
  have:=Tr (x : Int)
  omega
def Zjp (s : List UInt8) : Prop:=4 ≤ s.length ∧ s.drop (s.length - 4)=Zjo (Zfz (s.take (s.length - 4)))
theorem Zkv (b : List UInt8) : Zjp (b ++ Zjo (Zfz b)):=by
  have h4 : (Zjo (Zfz b)).length=4:=rfl
  have hl : (b ++ Zjo (Zfz b)).length - 4=b.length:=by rw [List.length_append,h4];omega
  refine⟨by rw [List.length_append,h4];omega,?_⟩
  rw [hl,List.drop_left,List.take_left]
end Go.Proofs.YtfemfiiagjnhdaaGreatDoor
set_option linter.unusedVariables false
set_option linter.unusedSimpArgs false
set_option linter.unusedSectionVars false
namespace Go.Proofs.YtfemfiiagjnhdaaGreatDoor
open Go Go.RowKit
def lens (p : GPlan) : Nat:=p.Pages.length + p.Procs.length + p.Ports.length + p.Sems.length
theorem tot3 {α β γ : Type} {o : Option (α × β × γ)} (h : o.isSome=true) : ∃ x e d,o=some (x,e,d):=by
  obtain⟨r,hr⟩:=Option.isSome_iff_exists.1 h
  exact⟨r.1,r.2.1,r.2.2,hr⟩
theorem Zok {c : GWireCursor} (h : OkCur c) : ∃ x e d,Wd c=some (x,e,d):=by
  have r1:=Ku (k:=1) (lo:=0) (hi:=255) h
  by_cases e1 : (Qr c 1 0 255).2.1=.nil
  · have hl:=Km _ r1.1
    have hn : (((Qr c 1 0 255).2.2.bound_ - (Qr c 1 0 255).2.2.at_).toNat : Int)=(Qr c 1 0 255).2.2.bound_ - (Qr c 1 0 255).2.2.at_:=Int.toNat_of_nonneg (by have:=r1.1.ab;omega)
    have hr:=Zds _ ((Qr c 1 0 255).2.2.bound_ - (Qr c 1 0 255).2.2.at_).toNat r1.1
    rw [hn] at hr
    have e2 : (⟨c.b_,(Qr c 1 0 255).2.2.at_,(Qr c 1 0 255).2.2.bound_⟩ : GWireCursor)=(Qr c 1 0 255).2.2:=by rw [← r1.2.1]
    refine tot3 ?_
    simp only [Ql,Wd,To c h,e1,e2,hl,hr,Option.bind_some,decide_true,Bool.not_true,cond_false,Option.isSome_some]
  · refine tot3 ?_
    simp only [Ql,Wd,To c h,e1,Option.bind_some,decide_false,Bool.not_false,cond_true,Option.isSome_some]
theorem Vv {c : GWireCursor} {k : Nat} {lo hi : Int} (h : OkCur c) : (⟨c.b_,(Qr c k lo hi).2.2.at_,(Qr c k lo hi).2.2.bound_⟩ : GWireCursor)=(Qr c k lo hi).2.2:=by
  rw [← (Ku h).2.1]
theorem Zol {c : GWireCursor} (h : OkCur c) : ∃ x e d,Uf c=some (x,e,d):=by
  have r1:=Ku (k:=4) (lo:=0) (hi:=4294967295) h
  have x1:=Vv (k:=4) (lo:=0) (hi:=4294967295) h
  generalize hc1 : Qr c 4 0 4294967295=q1 at r1 x1
  have r2:=Ku (k:=1) (lo:=0) (hi:=255) r1.1
  have x2:=Vv (k:=1) (lo:=0) (hi:=255) r1.1
  have u2:=To _ r1.1
  generalize hc2 : Qr q1.2.2 1 0 255=q2 at r2 x2 u2
  have r3:=Ku (k:=1) (lo:=0) (hi:=1) r2.1
  have x3:=Vv (k:=1) (lo:=0) (hi:=1) r2.1
  have u3:=Zej _ r2.1
  unfold Zji at u3
  generalize hc3 : Qr q2.2.2 1 0 1=q3 at r3 x3 u3
  have u4:=Zdt _ r3.1
  rw [r1.2.1] at x2
  rw [r2.2.1,r1.2.1] at x3
  refine tot3 ?_
  simp only [Ql,Uf,Zdr c h,hc1,x1,u2,x2,u3,x3,u4,Option.bind_some,Option.isSome_some]
theorem Zom {c : GWireCursor} (h : OkCur c) : ∃ x e d,Vl c=some (x,e,d):=by
  have r1:=Ku (k:=1) (lo:=0) (hi:=255) h
  have x1:=Vv (k:=1) (lo:=0) (hi:=255) h
  generalize hc1 : Qr c 1 0 255=q1 at r1 x1
  have r2:=Ku (k:=1) (lo:=0) (hi:=255) r1.1
  have x2:=Vv (k:=1) (lo:=0) (hi:=255) r1.1
  have u2:=To _ r1.1
  generalize hc2 : Qr q1.2.2 1 0 255=q2 at r2 x2 u2
  have r3:=Ku (k:=1) (lo:=0) (hi:=255) r2.1
  have x3:=Vv (k:=1) (lo:=0) (hi:=255) r2.1
  have u3:=To _ r2.1
  generalize hc3 : Qr q2.2.2 1 0 255=q3 at r3 x3 u3
  have r4:=Ku (k:=1) (lo:=0) (hi:=255) r3.1
  have x4:=Vv (k:=1) (lo:=0) (hi:=255) r3.1
  have u4:=To _ r3.1
  generalize hc4 : Qr q3.2.2 1 0 255=q4 at r4 x4 u4
  have u5:=Zdt _ r4.1
  rw [r1.2.1] at x2
  rw [r2.2.1,r1.2.1] at x3
  rw [r3.2.1,r2.2.1,r1.2.1] at x4
  refine tot3 ?_
  simp only [Ql,Vl,To c h,hc1,x1,u2,x2,u3,x3,u4,x4,u5,Option.bind_some,Option.isSome_some]
theorem Zii (q : List UInt8 × ErrM × GWireCursor) (l : List Int) (hb : l.length + q.1.length ≤ 17179869184) : Ur (Vm q) (0,l)=some (l ++ q.1.map fun b=>(b.toNat : Int)):=by
  have key : ∀ m k l,k + m=q.1.length → l.length + m ≤ 17179869184 → Ur (Vm q) (k,l)=some (l ++ (q.1.drop k).map fun b=>(b.toNat : Int)):=by
    intro m
    induction m with
    | zero=>
      intro k l hk _
      rw [List.drop_eq_nil_of_le (by omega),List.map_nil,List.append_nil]
      exact Wj (by simp only [Vm,show ¬ k < q.1.length by omega,decide_false,cond_false])
    | succ m ih=>
      intro k l hk hl
      have hlt : k < q.1.length:=by omega
      have hx : q.1[k]? = some q.1[k]:=List.getElem?_eq_getElem hlt
      have hd : q.1.drop k=q.1[k] :: q.1.drop (k + 1):=List.drop_eq_getElem_cons hlt
      have c1 : (l.length + [((q.1[k]).toNat : Int)].length) * 8 ≤ 140737488355328:=by simp only [List.length_cons,List.length_nil];omega
      rw [Ya (s':=(k + 1,l ++ [((q.1[k]).toNat : Int)])) (by simp only [Vm,hlt,hx,chk,c1,decide_true,cond_true,Option.bind_some,if_true]),ih (k + 1) _ (by omega) (by rw [List.length_append];simp only [List.length_cons,List.length_nil];omega),hd,List.map_cons,List.append_assoc]
      rfl
  exact key q.1.length 0 l (by omega) hb
theorem Zqh {p : GPlan} {t : Int} {c : GWireCursor} (h : OkCur c) (hl : lens p ≤ 8589934592) (hb : c.bound_ - c.at_ ≤ 70000) : ∃ e p' d,Xw p t c=some (e,p',d) ∧ (lens p' : Int) ≤ lens p + 1 + (c.bound_ - c.at_):=by
  have hk:=h.ab
  unfold lens at hl
  by_cases t1 : t=1
  · subst t1
    have t1 : (1 : Int)=1:=rfl
    obtain⟨x,e,d,hp⟩:=Zok h
    have c1 : (p.Pages.length + [x].length) * 24 ≤ 140737488355328:=by simp only [List.length_cons,List.length_nil];omega
    refine⟨e,⟨p.Id,p.Mobile,p.Pages ++ [x],p.Procs,p.Ports,p.Events,p.Sems⟩,⟨c.b_,d.at_,d.bound_⟩,by simp only [Ql,Xw,t1,hp,chk,c1,decide_true,cond_true,Option.bind_some,if_true],?_⟩
    simp only [lens,List.length_append,List.length_cons,List.length_nil];omega
  by_cases t2 : t=2
  · obtain⟨x,e,d,hp⟩:=Zol h
    have c1 : (p.Procs.length + [x].length) * 24 ≤ 140737488355328:=by simp only [List.length_cons,List.length_nil];omega
    refine⟨e,⟨p.Id,p.Mobile,p.Pages,p.Procs ++ [x],p.Ports,p.Events,p.Sems⟩,⟨c.b_,d.at_,d.bound_⟩,by simp only [Ql,Xw,t1,t2,hp,chk,c1,show ¬ (2 : Int)=1 by decide,decide_true,decide_false,cond_true,cond_false,Option.bind_some,if_true],?_⟩
    simp only [lens,List.length_append,List.length_cons,List.length_nil];omega
  by_cases t3 : t=3
  · obtain⟨x,e,d,hp⟩:=Zom h
    have c1 : (p.Ports.length + [x].length) * 32 ≤ 140737488355328:=by simp only [List.length_cons,List.length_nil];omega
    refine⟨e,⟨p.Id,p.Mobile,p.Pages,p.Procs,p.Ports ++ [x],p.Events,p.Sems⟩,⟨c.b_,d.at_,d.bound_⟩,by simp only [Ql,Xw,t1,t2,t3,hp,chk,c1,show ¬ (3 : Int)=1 by decide,show ¬ (3 : Int)=2 by decide,decide_true,decide_false,cond_true,cond_false,Option.bind_some,if_true],?_⟩
    simp only [lens,List.length_append,List.length_cons,List.length_nil];omega
  by_cases t4 : t=4
  · have r1:=Ku (k:=1) (lo:=0) (hi:=255) h
    have x1:=Vv (k:=1) (lo:=0) (hi:=255) h
    generalize hc1 : Qr c 1 0 255=q1 at r1 x1
    have u2:=Zdt _ r1.1
    refine⟨Zd6 [q1.2.1,(Zqe q1.2.2).1],⟨p.Id,p.Mobile,p.Pages,p.Procs,p.Ports,q1.1,p.Sems⟩,⟨c.b_,(Zqe q1.2.2).2.at_,(Zqe q1.2.2).2.bound_⟩,by simp only [Ql,Xw,t1,t2,t3,t4,To c h,hc1,x1,u2,show ¬ (4 : Int)=1 by decide,show ¬ (4 : Int)=2 by decide,show ¬ (4 : Int)=3 by decide,decide_true,decide_false,cond_true,cond_false,Option.bind_some],?_⟩
    simp only [lens];omega
  by_cases t5 : t=5
  · have hn : ((c.bound_ - c.at_).toNat : Int)=c.bound_ - c.at_:=Int.toNat_of_nonneg (by omega)
    have hr:=Zds c (c.bound_ - c.at_).toNat h
    have ro:=Zjj (n:=(c.bound_ - c.at_).toNat) h
    rw [hn] at hr
    generalize Zim c (c.bound_ - c.at_).toNat=q at hr ro
    have hs:=Zii q p.Sems (by omega)
    refine⟨q.2.1,⟨p.Id,p.Mobile,p.Pages,p.Procs,p.Ports,p.Events,p.Sems ++ q.1.map fun b=>(b.toNat : Int)⟩,⟨c.b_,q.2.2.at_,q.2.2.bound_⟩,by simp only [Ql,Xw,t1,t2,t3,t4,t5,Km c h,hr,hs,show ¬ (5 : Int)=1 by decide,show ¬ (5 : Int)=2 by decide,show ¬ (5 : Int)=3 by decide,show ¬ (5 : Int)=4 by decide,decide_true,decide_false,cond_true,cond_false,Option.bind_some],?_⟩
    simp only [lens,List.length_append,List.length_map];omega
  · refine⟨.v Zko,p,c,by simp only [Ql,Xw,t1,t2,t3,t4,t5,decide_false,cond_false],?_⟩
    simp only [lens];omega
def Zij (e : ErrM) (c : GWireCursor) (p : GPlan) : ErrM × Int × Int × Int × Bool × List GPagePlan × List GProcPlan × List GPortPlan × Int × List Int:=(e,c.at_,c.bound_,p.Id,p.Mobile,p.Pages,p.Procs,p.Ports,p.Events,p.Sems)
def Zik (e : ErrM) (p : GPlan) : ErrM × Int × Bool × List GPagePlan × List GProcPlan × List GPortPlan × Int × List Int:=(e,p.Id,p.Mobile,p.Pages,p.Procs,p.Ports,p.Events,p.Sems)
theorem Zon {r c : GWireCursor} {e : ErrM} {p : GPlan} (he : e ≠ .nil) : Qo r (Zij e c p)=some (.inr (Zik e p)):=by
  simp only [Zij,Qo,Ym,he,decide_false,cond_false,Option.bind_some,Zik]
theorem Zkc {r c : GWireCursor} {p : GPlan} (h : OkCur c) (hb : c.b_=r.b_) (hl : ¬ 0 < c.bound_ - c.at_) : Qo r (Zij .nil c p)=some (.inr (Zik .nil p)):=by
  simp only [Zij,Qo,Ym,← hb,Ql,Km c h,hl,decide_true,decide_false,cond_true,cond_false,Option.bind_some,Zik]
theorem Zoo {r c : GWireCursor} {p : GPlan} (h : OkCur c) (hb : c.b_=r.b_) (hl : 0 < c.bound_ - c.at_) (he : (Hc c).2.2.1 ≠ .nil) : Qo r (Zij .nil c p)=some (.inl (Zij (Hc c).2.2.1 (Hc c).2.2.2 p)):=by
  simp only [Zij,Qo,Ym,← hb,Ql,Km c h,hl,Zka c h,he,decide_true,decide_false,cond_true,cond_false,Option.bind_some]
theorem Zkd {r c c' d d' : GWireCursor} {p p' : GPlan} {t : Int} {e : ErrM} (h : OkCur c) (hb : c.b_=r.b_) (hl : 0 < c.bound_ - c.at_) (hn : Hc c=(t,some d,.nil,c')) (hd : d.b_=c.b_) (hp : Xw p t d=some (e,p',d')) : Qo r (Zij .nil c p)=some (.inl (Zij e c' p')):=by
  simp only [Zij,Qo,Ym,← hb,Ql,Km c h,hl,Zka c h,hn,decide_true,cond_true,Option.bind_some]
  simp only [← hd,Ql]
  rw [show (⟨p.Id,p.Mobile,p.Pages,p.Procs,p.Ports,p.Events,p.Sems⟩ : GPlan)=p from rfl,hp]
  rfl
theorem Zqi {c d : GWireCursor} (h : (Hc c).2.1=some d) : d.bound_ - d.at_ ≤ 65535 ∧ 0 ≤ d.bound_ - d.at_ ∧ (Hc c).2.2.1=.nil:=by
  have hn:=Zmj (Zh5 c.b_ (c.at_.toNat + 1) 2)
  unfold Hc at h ⊢
  split at h
  · cases h
  · split at h
    · cases h
    · split at h
      · cases h
      · rename_i h1 h2 h3
        rw [if_neg h1,if_neg h2,if_neg h3]
        cases h
        exact⟨by simp only;omega,by simp only;omega,rfl⟩
theorem Zop {r : GWireCursor} (hr : r.b_.length ≤ 4294967296) {c : GWireCursor} {p : GPlan} {e : ErrM} (h : OkCur c) (hb : c.b_=r.b_) (hl : (lens p : Int) ≤ c.at_) : ∃ e' p',Ur (Qo r) (Zij e c p)=some (Zik e' p'):=by
  have key:=Zdo (L:=Qo r) (fun s=>∃ e c p,s=Zij e c p ∧ OkCur c ∧ c.b_=r.b_ ∧ (lens p : Int) ≤ c.at_) (fun o=>∃ e p,o=Zik e p) (fun s=>if s.1=.nil then (s.2.2.1 - s.2.1).toNat + 1 else 0) (fun s hI=>by
    obtain⟨e,c,p,rfl,h,hb,hl⟩:=hI
    have ok:=h
    obtain⟨k1,k2,k3,k4⟩:=h
    rw [hb] at k3
    by_cases he : e=.nil
    · subst he
      by_cases h0 : 0 < c.bound_ - c.at_
      · obtain⟨n1,n2,n3,n4,n5⟩:=Zn7 ok
        by_cases hn : (Hc c).2.2.1=.nil
        · obtain⟨d,hd⟩:=n5 hn
          obtain⟨d1,d2,d3,d4⟩:=n4 d hd
          obtain⟨m1,m2,_⟩:=Zqi hd
          obtain⟨e',p',d',hp,hle⟩:=Zqh (p:=p) (t:=(Hc c).1) d1 (by omega) (by omega)
          have hnx : Hc c=((Hc c).1,some d,.nil,(Hc c).2.2.2):=by rw [← hd,← hn]
          refine .inl ⟨_,Zkd ok hb h0 hnx d2 hp,⟨e',_,p',rfl,n1,n2.trans hb,by omega⟩,?_⟩
          simp only [Zij,if_true,n3]
          split <;> omega
        · refine .inl ⟨_,Zoo ok hb h0 hn,⟨_,_,p,rfl,n1,n2.trans hb,?_⟩,?_⟩
          · have : (Hc c).2.2.2.at_=c.at_:=by
              unfold Hc at hn ⊢
              split
              · rfl
              · split
                · rfl
                · split
                  · rfl
                  · rename_i h1 h2 h3
                    rw [if_neg h1,if_neg h2,if_neg h3] at hn
                    exact absurd rfl hn
            omega
          · simp only [Zij,hn,if_true,if_false];omega
      · exact .inr ⟨_,Zkc ok hb h0,⟨_,_,rfl⟩⟩
    · exact .inr ⟨_,Zon he,⟨_,_,rfl⟩⟩) (s:=Zij e c p) ⟨e,c,p,rfl,h,hb,hl⟩
  obtain⟨_,h1,e',p',rfl⟩:=key
  exact⟨e',p',h1⟩
theorem Zoq {a b : List UInt8} : Zcg a=Zcg b ↔ a=b:=by
  constructor
  · intro h
    have:=congrArg (fun x : ByteArray=>x.data.toList) h
    simpa [Zcg] using this
  · exact congrArg Zcg
instance opensDec (s : List UInt8) : Decidable (Zjp s):=by unfold Zjp;infer_instance
theorem Zke (b : List UInt8) (h : b.length ≤ 140737488355328) : Gk b=some (if b.length < 4 then ([],.v Yc) else if Zjp b then (b.take (b.length - 4),.nil) else ([],.v gSum)):=by
  by_cases h4 : b.length < 4
  · simp only [Gk,h4,decide_true,cond_true,if_true]
  · have hw : IntKind.i64.wrap (((b.length : Nat) : Int) - 4)=((b.length - 4 : Nat) : Int):=by rw [Xa ⟨by omega,by omega⟩];omega
    have hl : (b.take (b.length - 4)).length=b.length - 4:=by rw [List.length_take];omega
    have c1 : (0 : Int) ≤ ((b.length - 4 : Nat) : Int) ∧ ((b.length - 4 : Nat) : Int) ≤ ((b.length : Nat) : Int):=⟨by omega,by omega⟩
    have c2 : (0 : Int) ≤ ((b.length - 4 : Nat) : Int) ∧ ((b.length - 4 : Nat) : Int) ≤ ((b.length : Nat) : Int) ∧ ((b.length : Nat) : Int) ≤ ((b.length : Nat) : Int):=⟨by omega,by omega,by omega⟩
    have hd : (b.drop (b.length - 4)).take (b.length - (b.length - 4))=b.drop (b.length - 4):=List.take_of_length_le (by rw [List.length_drop];omega)
    have e : ∀ z,Hr z=some (Zjo z):=fun _=>rfl
    have hc : Vk (b.take (b.length - 4))=some (b.take (b.length - 4)):=by
      have c : (([] : List UInt8).length + (b.take (b.length - 4)).length) * 1 ≤ 140737488355328:=by rw [hl];simp only [List.length_nil];omega
      simp only [Vk,chk,c,if_true,List.nil_append]
    by_cases ho : Zjp b
    · have hq : Zcg (Zjo (Zfz (b.take (b.length - 4))))=Zcg (b.drop (b.length - 4)):=by rw [ho.2]
      simp only [Gk,h4,hw,hl,Int.toNat_natCast,chk,c1,c2,and_self,hd,Zg5,e,Ga,hq,hc,ho,decide_true,decide_false,Bool.not_true,cond_false,Option.bind_some,if_true,if_false]
    · have hq : ¬ Zcg (Zjo (Zfz (b.take (b.length - 4))))=Zcg (b.drop (b.length - 4)):=fun hh=>ho ⟨by omega,(Zoq.1 hh).symm⟩
      simp only [Gk,h4,hw,hl,Int.toNat_natCast,chk,c1,c2,and_self,hd,Zg5,e,Ga,hq,ho,decide_false,Bool.not_false,cond_true,cond_false,Option.bind_some,if_true,if_false]
theorem Ze5 (a b : List UInt8) : Xs a b=some (decide (a=b)):=by
  by_cases hl : a.length=b.length
  · have h:=Zda (L:=Xp a b) hl (fun i x y hi hx hy=>by
      simp only [Xp,hi,hx,hy,decide_true,cond_true,Option.bind_some]
      by_cases e : x=y
      · simp [e]
      · have : ¬ ((x.toNat : Int)=(y.toNat : Int)):=fun h=>e (UInt8.toNat_inj.1 (by omega))
        simp [e,this]) (by simp [Xp])
    simp only [Xs,hl,decide_true,Bool.not_true,cond_false,h,Option.bind_some]
    by_cases e : a=b <;> simp [e]
  · simp only [Xs,hl,decide_false,Bool.not_false,cond_true,Ze3 hl]
def noP : GPlan:=⟨0,false,[],[],[],0,[]⟩
theorem Zjq {p : GPlan} (h : Zab p ≠ .nil) : Jf p=some ([],.v Gf):=by
  simp only [Jf,Hv,h,decide_false,Bool.not_false,cond_true,Option.bind_some]
theorem Zf1 (b : List UInt8) (h : b.length ≤ 140737488355328) : Tj b=some ⟨b,0,((b.length : Nat) : Int)⟩:=by
  have c : (([] : List UInt8).length + b.length) * 1 ≤ 140737488355328:=by simp only [List.length_nil];omega
  simp only [Tj,Qy,chk,c,if_true,Option.bind_some,List.nil_append]
theorem Zpc (b : List UInt8) (h : b.length ≤ 140737488355328) : OkCur ⟨b,0,((b.length : Nat) : Int)⟩:=⟨Int.le_refl _,by simp only;omega,Int.le_refl _,h⟩
theorem Zor {c : GWireCursor} {n : Nat} (h : OkCur c) : (⟨c.b_,(Zim c n).2.2.at_,(Zim c n).2.2.bound_⟩ : GWireCursor)=(Zim c n).2.2:=by
  rw [← (Zjj h).2.1]
theorem Zhc (b : List UInt8) (hb : b.length ≤ 140737488355328) : ∃ p e,Xz b=some (p,e) ∧ (e=.nil → Zab p=.nil ∧ Ki p=b) ∧ (e ≠ .nil → p=noP):=by
  have hO:=Zke b hb
  by_cases h4 : b.length < 4
  · rw [if_pos h4] at hO
    refine⟨noP,.v Yc,?_,(fun h=>by cases h),fun _=>rfl⟩
    simp only [Xz,hO,Option.bind_some,noP];rfl
  rw [if_neg h4] at hO
  by_cases ho : Zjp b
  rotate_left
  · rw [if_neg ho] at hO
    refine⟨noP,.v gSum,?_,(fun h=>by cases h),fun _=>rfl⟩
    simp only [Xz,hO,Option.bind_some,noP];rfl
  rw [if_pos ho] at hO
  have hl : (b.take (b.length - 4)).length=b.length - 4:=by rw [List.length_take];omega
  generalize hbody : b.take (b.length - 4)=body at hO hl
  by_cases h15 : body.length < 15
  · refine⟨noP,.v Yc,?_,(fun h=>by cases h),fun _=>rfl⟩
    simp only [Xz,hO,h15,Option.bind_some,decide_true,Bool.not_true,cond_true,cond_false,noP]
  have c6 : (0 : Int) ≤ 6 ∧ (6 : Int) ≤ ((body.length : Nat) : Int):=⟨by decide,by omega⟩
  by_cases hk : Zcg (body.take (6 : Int).toNat)=⟨#[70,80,76,78,0,1]⟩
  rotate_left
  · refine⟨noP,.v Zgi,?_,(fun h=>by cases h),fun _=>rfl⟩
    simp only [Xz,hO,h15,hk,chk,c6,and_self,if_true,Option.bind_some,decide_true,decide_false,Bool.not_true,Bool.not_false,cond_true,cond_false,noP]
  have hop:=Zf1 body (by omega)
  have ok0:=Zpc body (by omega)
  generalize hc0 : (⟨body,0,((body.length : Nat) : Int)⟩ : GWireCursor)=c0 at hop ok0
  have hb0 : c0.b_=body:=by rw [← hc0]
  have hraw:=Zds c0 6 ok0
  have r1:=Zjj (n:=6) ok0
  have x1:=Zor (n:=6) ok0
  generalize Zim c0 6=q1 at hraw r1 x1
  have hu1:=Zdr _ r1.1
  have r2:=Ku (k:=4) (lo:=0) (hi:=4294967295) r1.1
  have x2:=Vv (k:=4) (lo:=0) (hi:=4294967295) r1.1
  have g2 : (Qr q1.2.2 4 0 4294967295).1 ≤ 4294967295:=by
    unfold Qr;split
    · simp
    · split
      · simp
      · simp only;omega
  generalize Qr q1.2.2 4 0 4294967295=q2 at hu1 r2 x2 g2
  rw [r1.2.1] at x2
  by_cases hn : q2.1=((b.length : Nat) : Int)
  rotate_left
  · refine⟨noP,.v Yu,?_,(fun h=>by cases h),fun _=>rfl⟩
    simp only [Xz,hO,h15,hk,chk,c6,and_self,hop,Ql,show Qu c0 6=_ from hraw,x1,hu1,hn,if_true,Option.bind_some,decide_true,decide_false,Bool.not_true,Bool.not_false,cond_true,cond_false,noP]
  have hu2:=Zdr _ r2.1
  have r3:=Ku (k:=4) (lo:=0) (hi:=4294967295) r2.1
  have x3:=Vv (k:=4) (lo:=0) (hi:=4294967295) r2.1
  generalize Qr q2.2.2 4 0 4294967295=q3 at hu2 r3 x3
  rw [r2.2.1,r1.2.1] at x3
  have hu3:=Zej _ r3.1
  have r4:=Ku (k:=1) (lo:=0) (hi:=1) r3.1
  have f4 : (Zji q3.2.2).2.2=(Qr q3.2.2 1 0 1).2.2:=rfl
  generalize Zji q3.2.2=q4 at hu3 f4
  have ok4 : OkCur q4.2.2:=by rw [f4];exact r4.1
  have b4 : q4.2.2.b_=c0.b_:=by rw [f4,r4.2.1,r3.2.1,r2.2.1,r1.2.1]
  obtain⟨e,p,hL⟩:=Zop (r:=c0) (c:=q4.2.2) (p:=⟨q3.1,q4.1,[],[],[],0,[]⟩) (e:=q4.2.1) (by rw [hb0];omega) ok4 b4 (by have:=ok4.a0;simpa [lens] using this)
  have hL' : Ur (Qo c0) (q4.2.1,q4.2.2.at_,q4.2.2.bound_,q3.1,q4.1,[],[],[],0,[])=some (e,p.Id,p.Mobile,p.Pages,p.Procs,p.Ports,p.Events,p.Sems):=hL
  have base : Xz b=(bif (!decide (e=.nil)) then some (noP,(.v Gf)) else (Jf p).bind fun r702=>(((bif (!decide (r702.2=.nil)) then some true else (Xs r702.1 b).bind fun r1213=>some (!r1213))) : Option Bool).bind (fun q=>(Ko p.Id p.Mobile p.Pages p.Procs p.Ports p.Events p.Sems) q)):=by
    simp only [Xz,hO,h15,hk,chk,c6,and_self,hop,Ql,show Qu c0 6=_ from hraw,x1,hu1,x2,hn,hu2,x3,hu3,if_true,Option.bind_some,decide_true,decide_false,Bool.not_true,cond_false]
    rw [hL']
    rfl
  by_cases he : e=.nil
  rotate_left
  · exact⟨noP,.v Gf,by rw [base];simp only [he,decide_false,Bool.not_false,cond_true],(fun h=>by cases h),fun _=>rfl⟩
  simp only [he,decide_true,Bool.not_true,cond_false] at base
  by_cases hp : Zab p=.nil
  · simp only [Hw hp,Option.bind_some,decide_true,Bool.not_true,cond_false,Ze5] at base
    by_cases hq : Ki p=b
    · simp only [hq,decide_true,Bool.not_true,Ko,cond_false] at base
      exact⟨p,.nil,base,fun _=>⟨hp,hq⟩,fun h=>absurd rfl h⟩
    · simp only [hq,decide_false,Bool.not_false,Ko,cond_true] at base
      exact⟨noP,.v Gf,base,(fun h=>by cases h),fun _=>rfl⟩
  · have hv : ¬ (ErrM.v Gf=ErrM.nil):=fun h=>by cases h
    simp only [Zjq hp,Option.bind_some,hv,decide_false,Bool.not_false,cond_true,Ko] at base
    exact⟨noP,.v Gf,base,(fun h=>by cases h),fun _=>rfl⟩
theorem Zm0 (s : ByteArray) : Zcg s.data.toList=s:=by cases s;simp [Zcg]
theorem Zos {c : GWireCursor} {x : GPagePlan} (h : Sees c (Zbr x)) (h0 : 0 ≤ x.Rights) (h1 : x.Rights ≤ 7) : ∃ d,Wd c=some (x,.nil,d):=by
  obtain⟨e1,s1⟩:=h.num (lo:=0) (hi:=255) (by omega) h0 (by omega) h0 (by decide)
  have hr:=Zds _ ((adv c ((1 : Nat) : Int)).bound_ - (adv c ((1 : Nat) : Int)).at_).toNat s1.ok
  obtain⟨e2,s2⟩:=s1.raw
  rw [e2] at hr
  have hn : ((((adv c ((1 : Nat) : Int)).bound_ - (adv c ((1 : Nat) : Int)).at_).toNat : Nat) : Int)=(adv c ((1 : Nat) : Int)).bound_ - (adv c ((1 : Nat) : Int)).at_:=Int.toNat_of_nonneg (by have:=s1.ok.ab;omega)
  rw [hn] at hr
  have hl:=Km _ s1.ok
  have hu:=To c h.ok
  rw [e1] at hu
  refine⟨adv (adv c ((1 : Nat) : Int)) (x.Init.data.toList.length : Int),?_⟩
  simp only [Ql,Wd,hu,Option.bind_some,decide_true,Bool.not_true,cond_false]
  simp only [adv] at hl hr ⊢
  simp only [hl,Option.bind_some,hr,Zm0]
theorem Zot {c : GWireCursor} {x : GProcPlan} (h : Sees c (Zce x)) (h0 : 0 ≤ x.Prio) (h1 : x.Prio ≤ 255) (h2 : 0 ≤ x.Entry) (h3 : x.Entry < 2048) : ∃ d,Uf c=some (x,.nil,d):=by
  obtain⟨e1,s1⟩:=h.num (lo:=0) (hi:=4294967295) (by omega) h2 (by omega) h2 (by decide)
  obtain⟨e2,s2⟩:=s1.num (lo:=0) (hi:=255) (by omega) h0 h1 h0 (by decide)
  obtain⟨e3,s3⟩:=Sees.flag (b:=x.Auto) (r:=[]) (by rw [List.append_nil];exact s2)
  have u1:=Zdr c h.ok
  have u2:=To _ s1.ok
  have u3:=Zej _ s2.ok
  have u4:=Zdt _ s3.ok
  rw [e1] at u1;rw [e2] at u2;rw [e3] at u3;rw [s3.ended] at u4
  refine⟨adv (adv (adv c ((4 : Nat) : Int)) ((1 : Nat) : Int)) 1,?_⟩
  simp only [adv] at u1 u2 u3 u4
  simp only [Ql,Uf,u1,Option.bind_some,u2,u3,u4]
  rfl
theorem Zou {c : GWireCursor} {x : GPortPlan} (h : Sees c (Zc5 x)) (h0 : 1 ≤ x.Kind ∧ x.Kind ≤ 4 ∧ 1 ≤ x.Size ∧ x.Size ≤ 32 ∧ 1 ≤ x.Depth ∧ x.Depth ≤ 8 ∧ 0 ≤ x.Refresh ∧ x.Refresh ≤ 255) : ∃ d,Vl c=some (x,.nil,d):=by
  obtain⟨e1,s1⟩:=h.num (lo:=0) (hi:=255) (by omega) (by omega) (by omega) (by omega) (by decide)
  obtain⟨e2,s2⟩:=s1.num (lo:=0) (hi:=255) (by omega) (by omega) (by omega) (by omega) (by decide)
  obtain⟨e3,s3⟩:=s2.num (lo:=0) (hi:=255) (by omega) (by omega) (by omega) (by omega) (by decide)
  obtain⟨e4,s4⟩:=s3.num0 (lo:=0) (hi:=255) (by omega) (by omega) (by omega) (by omega) (by decide)
  have u1:=To c h.ok
  have u2:=To _ s1.ok
  have u3:=To _ s2.ok
  have u4:=To _ s3.ok
  have u5:=Zdt _ s4.ok
  rw [e1] at u1;rw [e2] at u2;rw [e3] at u3;rw [e4] at u4;rw [s4.ended] at u5
  refine⟨adv (adv (adv (adv c ((1 : Nat) : Int)) ((1 : Nat) : Int)) ((1 : Nat) : Int)) ((1 : Nat) : Int),?_⟩
  simp only [adv] at u1 u2 u3 u4 u5
  simp only [Ql,Vl,u1,Option.bind_some,u2,u3,u4,u5]
  rfl
abbrev Item:=Int × List UInt8 × (GPlan → GPlan)
def Ze6 (i : Item) : Prop:=1 ≤ i.1 ∧ i.1 ≤ 255 ∧ i.2.1.length ≤ 65535 ∧ ∀ (q : GPlan) (d : GWireCursor),Sees d i.2.1 → lens q ≤ 5000 → ∃ d',Xw q i.1 d=some (.nil,i.2.2 q,d') ∧ lens (i.2.2 q) ≤ lens q + 8
def Zm1 (x : GPagePlan) (q : GPlan) : GPlan:=⟨q.Id,q.Mobile,q.Pages ++ [x],q.Procs,q.Ports,q.Events,q.Sems⟩
def Zm2 (x : GProcPlan) (q : GPlan) : GPlan:=⟨q.Id,q.Mobile,q.Pages,q.Procs ++ [x],q.Ports,q.Events,q.Sems⟩
def Zm3 (x : GPortPlan) (q : GPlan) : GPlan:=⟨q.Id,q.Mobile,q.Pages,q.Procs,q.Ports ++ [x],q.Events,q.Sems⟩
def evU (n : Int) (q : GPlan) : GPlan:=⟨q.Id,q.Mobile,q.Pages,q.Procs,q.Ports,n,q.Sems⟩
def semU (l : List Int) (q : GPlan) : GPlan:=⟨q.Id,q.Mobile,q.Pages,q.Procs,q.Ports,q.Events,q.Sems ++ l⟩
theorem Zm4 {x : GPagePlan} (h : 0 ≤ x.Rights ∧ x.Rights ≤ 7 ∧ x.Init.size ≤ 64) : Ze6 (1,Zbr x,Zm1 x):=by
  refine⟨by simp,by simp,by simp only [Zc6];omega,fun q d hs hq=>?_⟩
  unfold lens at hq
  obtain⟨d',hp⟩:=Zos hs h.1 h.2.1
  have c1 : (q.Pages.length + [x].length) * 24 ≤ 140737488355328:=by simp only [List.length_cons,List.length_nil];omega
  exact⟨⟨d.b_,d'.at_,d'.bound_⟩,by simp only [Ql,Xw,hp,chk,c1,decide_true,cond_true,Option.bind_some,if_true];rfl,by simp only [lens,Zm1,List.length_append,List.length_cons,List.length_nil];omega⟩
theorem Zm5 {x : GProcPlan} (h : 0 ≤ x.Prio ∧ x.Prio ≤ 255 ∧ 0 ≤ x.Entry ∧ x.Entry < 2048) : Ze6 (2,Zce x,Zm2 x):=by
  refine⟨by simp,by simp,by simp only [Zc7];omega,fun q d hs hq=>?_⟩
  unfold lens at hq
  obtain⟨d',hp⟩:=Zot hs h.1 h.2.1 h.2.2.1 h.2.2.2
  have c1 : (q.Procs.length + [x].length) * 24 ≤ 140737488355328:=by simp only [List.length_cons,List.length_nil];omega
  exact⟨⟨d.b_,d'.at_,d'.bound_⟩,by simp only [Ql,Xw,hp,chk,c1,show ¬ (2 : Int)=1 by decide,decide_true,decide_false,cond_true,cond_false,Option.bind_some,if_true];rfl,by simp only [lens,Zm2,List.length_append,List.length_cons,List.length_nil];omega⟩
theorem Zm6 {x : GPortPlan} (h : 1 ≤ x.Kind ∧ x.Kind ≤ 4 ∧ 1 ≤ x.Size ∧ x.Size ≤ 32 ∧ 1 ≤ x.Depth ∧ x.Depth ≤ 8 ∧ 0 ≤ x.Refresh ∧ x.Refresh ≤ 255) : Ze6 (3,Zc5 x,Zm3 x):=by
  refine⟨by simp,by simp,by simp only [Zc8];omega,fun q d hs hq=>?_⟩
  unfold lens at hq
  obtain⟨d',hp⟩:=Zou hs h
  have c1 : (q.Ports.length + [x].length) * 32 ≤ 140737488355328:=by simp only [List.length_cons,List.length_nil];omega
  exact⟨⟨d.b_,d'.at_,d'.bound_⟩,by simp only [Ql,Xw,hp,chk,c1,show ¬ (3 : Int)=1 by decide,show ¬ (3 : Int)=2 by decide,decide_true,decide_false,cond_true,cond_false,Option.bind_some,if_true];rfl,by simp only [lens,Zm3,List.length_append,List.length_cons,List.length_nil];omega⟩
theorem Zqj {n : Int} (h0 : 0 ≤ n) (h1 : n ≤ 8) : Ze6 (4,be n 1,evU n):=by
  refine⟨by simp,by simp,by simp only [Kg];omega,fun q d hs hq=>?_⟩
  obtain⟨e1,s1⟩:=hs.num0 (lo:=0) (hi:=255) (by omega) h0 (by omega) h0 (by decide)
  have u1:=To d hs.ok
  have u2:=Zdt _ s1.ok
  rw [e1] at u1;rw [s1.ended] at u2
  simp only [adv] at u1 u2
  refine⟨adv d ((1 : Nat) : Int),by simp only [Ql,Xw,u1,u2,show ¬ (4 : Int)=1 by decide,show ¬ (4 : Int)=2 by decide,show ¬ (4 : Int)=3 by decide,decide_true,decide_false,cond_true,cond_false,Option.bind_some];rfl,by simp only [lens,evU];omega⟩
theorem Zil : ∀ {l : List Int},(∀ n ∈ l,0 ≤ n ∧ n ≤ 255) → (l.flatMap Zia).map (fun b=>(b.toNat : Int))=l
  | [],_=>rfl
  | n :: l,h=>by
    have hn:=h n (List.mem_cons_self ..)
    have hb:=Tr n
    have hs : shR .i64 n ((8 * 0 : Nat) : Int)=n:=by unfold shR;simp
    rw [List.flatMap_cons,List.map_append,Zil fun m hm=>h m (List.mem_cons_of_mem _ hm)]
    show ((Qz (shR .i64 n ((8 * 0 : Nat) : Int))).toNat : Int) :: l=n :: l
    rw [hs,hb,show n % 256=n by omega]
theorem Zov {l : List Int} (h : ∀ n ∈ l,0 ≤ n ∧ n ≤ 255) (hl : l.length ≤ 8) : Ze6 (5,l.flatMap Zia,semU l):=by
  have hf : (l.flatMap Zia).length ≤ l.length * 1:=Gu fun x _=>by rw [Zia,Kg];omega
  refine⟨by simp,by simp,by simp only;omega,fun q d hs hq=>?_⟩
  unfold lens at hq
  have hr:=Zds d (d.bound_ - d.at_).toNat hs.ok
  obtain⟨e2,s2⟩:=hs.raw
  rw [e2] at hr
  have hn : (((d.bound_ - d.at_).toNat : Nat) : Int)=d.bound_ - d.at_:=Int.toNat_of_nonneg (by have:=hs.ok.ab;omega)
  rw [hn] at hr
  have hsl:=Zii (l.flatMap Zia,.nil,adv d (l.flatMap Zia).length) q.Sems (by simp only;omega)
  rw [Zil h] at hsl
  refine⟨adv d (l.flatMap Zia).length,by simp only [Ql,Xw,Km d hs.ok,hr,hsl,show ¬ (5 : Int)=1 by decide,show ¬ (5 : Int)=2 by decide,show ¬ (5 : Int)=3 by decide,show ¬ (5 : Int)=4 by decide,decide_true,decide_false,cond_true,cond_false,Option.bind_some];rfl,by simp only [lens,semU,List.length_append];omega⟩
theorem Zf2 {r : GWireCursor} : ∀ (its : List Item) (q : GPlan) (c : GWireCursor),(∀ i ∈ its,Ze6 i) → Sees c (its.flatMap fun i=>Zbk i.1 i.2.1) → c.b_=r.b_ → lens q + 8 * its.length ≤ 5000 →
    Ur (Qo r) (Zij .nil c q)=some (Zik .nil (its.foldl (fun q i=>i.2.2 q) q))
  | [],q,c,_,hs,hb,_=>by
    have hl:=hs.left
    exact Wj (Zkc hs.ok hb (by rw [hl];simp))
  | i :: its,q,c,hI,hs,hb,hq=>by
    obtain⟨t0,t1,hlen,hput⟩:=hI i (List.mem_cons_self ..)
    rw [List.flatMap_cons] at hs
    have hl:=hs.left
    rw [List.length_append,Gt] at hl
    obtain⟨d,hn,sd,hdb,sc⟩:=hs.next t0 t1 hlen
    rw [List.length_cons] at hq
    obtain⟨d',hp,hle⟩:=hput q d sd (by omega)
    rw [Ya (Zkd hs.ok hb (by omega) hn hdb hp)]
    exact Zf2 its _ _ (fun j hj=>hI j (List.mem_cons_of_mem _ hj)) sc hb (by omega)
def Zhd (p : GPlan) : List Item:=p.Pages.map (fun x=>(1,Zbr x,Zm1 x)) ++ (p.Procs.map (fun x=>(2,Zce x,Zm2 x)) ++ (p.Ports.map (fun x=>(3,Zc5 x,Zm3 x)) ++ [(4,be p.Events 1,evU p.Events),(5,p.Sems.flatMap Zia,semU p.Sems)]))
theorem Zkw (p : GPlan) : (Zhd p).flatMap (fun i=>Zbk i.1 i.2.1)=Hd p:=by
  simp only [Zhd,Hd,List.flatMap_append,List.flatMap_map,List.flatMap_cons,List.flatMap_nil,List.append_nil]
theorem Zow {p : GPlan} (ok : OkK p) : ∀ i ∈ Zhd p,Ze6 i:=by
  intro i hi
  simp only [Zhd,List.mem_append,List.mem_map,List.mem_cons,List.not_mem_nil,or_false] at hi
  rcases hi with ⟨x,hx,rfl⟩ | ⟨x,hx,rfl⟩ | ⟨x,hx,rfl⟩|rfl|rfl
  · exact Zm4 (ok.pag x hx)
  · obtain⟨h1,h2,h3,h4,_⟩:=ok.prio x hx
    exact Zm5 ⟨h1,h2,h3,h4⟩
  · exact Zm6 (ok.dep x hx).2
  · exact Zqj ok.ev0 ok.ev1
  · exact Zov ok.sem ok.se1
theorem Zf3 : ∀ (l : List GPagePlan) (q : GPlan),l.foldl (fun q x=>Zm1 x q) q=⟨q.Id,q.Mobile,q.Pages ++ l,q.Procs,q.Ports,q.Events,q.Sems⟩
  | [],q=>by simp
  | x :: l,q=>by rw [List.foldl_cons,Zf3 l];simp [Zm1]
theorem Zf4 : ∀ (l : List GProcPlan) (q : GPlan),l.foldl (fun q x=>Zm2 x q) q=⟨q.Id,q.Mobile,q.Pages,q.Procs ++ l,q.Ports,q.Events,q.Sems⟩
  | [],q=>by simp
  | x :: l,q=>by rw [List.foldl_cons,Zf4 l];simp [Zm2]
theorem Zf5 : ∀ (l : List GPortPlan) (q : GPlan),l.foldl (fun q x=>Zm3 x q) q=⟨q.Id,q.Mobile,q.Pages,q.Procs,q.Ports ++ l,q.Events,q.Sems⟩
  | [],q=>by simp
  | x :: l,q=>by rw [List.foldl_cons,Zf5 l];simp [Zm3]
theorem Zkx (p : GPlan) : (Zhd p).foldl (fun q i=>i.2.2 q) ⟨p.Id,p.Mobile,[],[],[],0,[]⟩=p:=by
  simp only [Zhd,List.foldl_append,List.foldl_map,List.foldl_cons,List.foldl_nil,Zf3,Zf4,Zf5,evU,semU,List.nil_append]
theorem Zm7 {p : GPlan} (ok : OkK p) : (Zhd p).length ≤ 50:=by
  have h1:=ok.pg1;have h2:=ok.pr1;have h3:=ok.po1
  simp only [Zhd,List.length_append,List.length_map,List.length_cons,List.length_nil];omega
theorem Zfh {p : GPlan} (h : Zab p=.nil) : Xz (Ki p)=some (p,.nil):=by
  have ok:=Zh6 h
  have hrl:=Zc9 ok
  have hhl:=Zaq p
  have hbl : (Kh p).length=15 + (Hd p).length:=by rw [Kh,List.length_append,hhl]
  have h4 : (Zfg (Zfz (Kh p))).length=4:=rfl
  have hlen : (Ki p).length=15 + (Hd p).length + 4:=by rw [Ki,List.length_append,hbl,h4]
  have hop : Zjp (Ki p):=Zkv (Kh p)
  have htk : (Ki p).take ((Ki p).length - 4)=Kh p:=by
    rw [hlen,show 15 + (Hd p).length + 4 - 4=(Kh p).length by omega,Ki,List.take_left]
  have hO:=Zke (Ki p) (by omega)
  rw [if_neg (by omega),if_pos hop,htk] at hO
  have h15 : ¬ (Kh p).length < 15:=by omega
  have c6 : (0 : Int) ≤ 6 ∧ (6 : Int) ≤ (((Kh p).length : Nat) : Int):=⟨by decide,by omega⟩
  have e6 : Kh p=(Ge ++ be 1 2) ++ (be (((15 + (Hd p).length + 4 : Nat)) : Int) 4 ++ (be p.Id 4 ++ (Zg7 p.Mobile ++ Hd p))):=by
    simp only [Kh,Zid,List.append_assoc]
  have l6 : (Ge ++ be 1 2).length=6:=by simp [Ge,Kg]
  have t6 : (Kh p).take (6 : Int).toNat=Ge ++ be 1 2:=by
    rw [e6,show (6 : Int).toNat=(Ge ++ be 1 2).length from by rw [l6];rfl,List.take_left]
  have hk : Zcg ((Kh p).take (6 : Int).toNat)=⟨#[70,80,76,78,0,1]⟩:=by rw [t6];kernel_rfl
  have hOp:=Zf1 (Kh p) (by omega)
  have ok0:=Zpc (Kh p) (by omega)
  have hs0 : Sees ⟨Kh p,0,(((Kh p).length : Nat) : Int)⟩ (Kh p):=⟨ok0,by
    simp only [cut,Int.sub_zero,Int.toNat_natCast,Int.toNat_zero,List.drop_zero]
    exact List.take_of_length_le (Nat.le_refl _)⟩
  generalize hc0 : (⟨Kh p,0,(((Kh p).length : Nat) : Int)⟩ : GWireCursor)=c0 at hOp ok0 hs0
  have hb0 : c0.b_=Kh p:=by rw [← hc0]
  rw [e6] at hs0
  have s1:=hs0.behind
  rw [l6] at s1
  have hraw : Qu c0 6=some (cut c0.b_ c0.at_.toNat 6,.nil,adv c0 ((6 : Nat) : Int)):=by
    have hr:=Zds c0 6 ok0
    have hl:=hs0.left
    rw [List.length_append,l6] at hl
    unfold Zim at hr
    rw [if_neg (by omega)] at hr
    exact hr
  obtain⟨e2,s2⟩:=s1.num (lo:=0) (hi:=4294967295) (by omega) (by omega) (by omega) (by omega) (by decide)
  obtain⟨e3,s3⟩:=s2.num (lo:=0) (hi:=4294967295) (by omega) ok.id0 (by have:=ok.id1;omega) ok.id0 (by decide)
  obtain⟨e4,s4⟩:=s3.flag
  have u2:=Zdr _ s1.ok
  have u3:=Zdr _ s2.ok
  have u4:=Zej _ s3.ok
  rw [e2] at u2;rw [e3] at u3;rw [e4] at u4
  rw [← Zkw] at s4
  have hL:=Zf2 (r:=c0) (Zhd p) ⟨p.Id,p.Mobile,[],[],[],0,[]⟩ _ (Zow ok) s4 rfl (by have:=Zm7 ok;simp only [lens,List.length_nil];omega)
  rw [Zkx] at hL
  have hn : ((15 + (Hd p).length + 4 : Nat) : Int)=(((Ki p).length : Nat) : Int):=by rw [hlen]
  simp only [adv,Zij,Zik] at hraw u2 u3 u4 hL
  simp only [Xz,hO,h15,hk,chk,c6,and_self,hOp,hraw,Ql,u2,u3,u4,hn,if_true,Option.bind_some,decide_true,decide_false,Bool.not_true,cond_false]
  rw [hL]
  simp only [Option.bind_some,decide_true,Bool.not_true,cond_false,Hw h,Ze5,Ko]
end Go.Proofs.YtfemfiiagjnhdaaGreatDoor
set_option linter.unusedVariables false
set_option linter.unusedSimpArgs false
set_option linter.unusedSectionVars false
namespace Go.Proofs.YtfemfiiagjnhdaaGreatDoor
open Go Go.RowKit
theorem Ze7 {a b : Nat} (ha : a < 4294967296) (hb : b < 4294967296) : Zfd .u32 (a : Int) (b : Int)=((a ||| b : Nat) : Int):=by
  have h : (BitVec.ofInt IntKind.u32.bits (a : Int) ||| BitVec.ofInt IntKind.u32.bits (b : Int)).toNat=a ||| b:=by
    rw [show IntKind.u32.bits=32 from rfl,BitVec.toNat_or,BitVec.ofInt_natCast,BitVec.ofInt_natCast,BitVec.toNat_ofNat,BitVec.toNat_ofNat,Nat.mod_eq_of_lt (by omega),Nat.mod_eq_of_lt (by omega)]
  unfold Zfd
  rw [h]
  exact Zdb (Nat.or_lt_two_pow (n:=32) ha hb)
theorem Zjr {a k : Nat} (hk : k ≤ 32) (h : a * 2 ^ k < 4294967296) : shL .u32 (a : Int) (k : Int)=((a * 2 ^ k : Nat) : Int):=by
  unfold shL
  rw [Int.toNat_natCast,show min k IntKind.u32.bits=k from Nat.min_eq_left hk]
  have : (a : Int) * 2 ^ k=((a * 2 ^ k : Nat) : Int):=by simp
  rw [this]
  exact Zdb h
theorem Zm8 {a b k : Nat} (h : a < 2 ^ k) : a ||| b * 2 ^ k=a + b * 2 ^ k:=by
  have:=Nat.two_pow_add_eq_or_of_lt h b
  rw [Nat.or_comm,Nat.mul_comm b,← this,Nat.add_comm]
theorem Zm9 {s : Nat} (h : s < 4294967296) : Zfd .u32 (Zfd .u32 (Zfd .u32 (((Qz (s : Int)).toNat : Nat) : Int) (shL .u32 (((Qz (shR .u32 (s : Int) 8)).toNat : Nat) : Int) 8)) (shL .u32 (((Qz (shR .u32 (s : Int) 16)).toNat : Nat) : Int) 16)) (shL .u32 (((Qz (shR .u32 (s : Int) 24)).toNat : Nat) : Int) 24)=(s : Int):=by
  have e1 : shR .u32 (s : Int) 8=((s / 256 : Nat) : Int):=Ze4 s 8 (by decide)
  have e2 : shR .u32 (s : Int) 16=((s / 65536 : Nat) : Int):=Ze4 s 16 (by decide)
  have e3 : shR .u32 (s : Int) 24=((s / 16777216 : Nat) : Int):=Ze4 s 24 (by decide)
  have f1 : shL .u32 ((s / 256 % 256 : Nat) : Int) 8=((s / 256 % 256 * 2 ^ 8 : Nat) : Int):=Zjr (k:=8) (by decide) (by omega)
  have f2 : shL .u32 ((s / 65536 % 256 : Nat) : Int) 16=((s / 65536 % 256 * 2 ^ 16 : Nat) : Int):=Zjr (k:=16) (by decide) (by omega)
  have f3 : shL .u32 ((s / 16777216 % 256 : Nat) : Int) 24=((s / 16777216 % 256 * 2 ^ 24 : Nat) : Int):=Zjr (k:=24) (by decide) (by omega)
  rw [e1,e2,e3,Zbl,Zbl,Zbl,Zbl,f1,f2,f3,Ze7 (by omega) (by omega),Zm8 (by omega),Ze7 (by omega) (by omega),Zm8 (by omega),Ze7 (by omega) (by omega),Zm8 (by omega)]
  omega
theorem Zna {p : GPlan} (h : Zab p=.nil) : Zal p=some (Zfz (Kh p),.nil):=by
  have ok:=Zh6 h
  have hrl:=Zc9 ok
  have hbl : (Kh p).length=15 + (Hd p).length:=by rw [Kh,List.length_append,Zaq]
  have h4 : (Zfg (Zfz (Kh p))).length=4:=rfl
  have hlen : (Ki p).length=(Kh p).length + 4:=by rw [Ki,List.length_append,h4]
  have hw : IntKind.i64.wrap ((((Ki p).length : Nat) : Int) - 4)=(((Kh p).length : Nat) : Int):=by rw [Xa ⟨by omega,by omega⟩];omega
  have c1 : (0 : Int) ≤ (((Kh p).length : Nat) : Int) ∧ (((Kh p).length : Nat) : Int) ≤ (((Ki p).length : Nat) : Int):=⟨by omega,by omega⟩
  have ht : (Ki p).take (Kh p).length=Kh p:=by rw [Ki,List.take_left]
  simp only [Zal,Hw h,hw,chk,c1,and_self,if_true,Option.bind_some,decide_true,Bool.not_true,cond_false,Int.toNat_natCast,ht,Zg5]
theorem Zf6 (x : GL10Case) (hB : x.B.length ≤ 140737488355328) : Jd x ()=some true:=by
  have c1 : (([] : List UInt8).length + x.B.length) * 1 ≤ 140737488355328:=by simp only [List.length_nil];omega
  obtain⟨p,e,hr,h1,h2⟩:=Zhc x.B hB
  by_cases he : e=.nil
  · obtain⟨g1,g2⟩:=h1 he
    simp only [Jd,chk,c1,if_true,List.nil_append,hr,Option.bind_some,he,decide_true,Bool.not_true,cond_false,cond_true,Hw g1,g2,Zg4,g1]
  · obtain rfl:=h2 he
    simp only [Jd,chk,c1,if_true,List.nil_append,hr,Option.bind_some,he,decide_false,Bool.not_false,cond_true,Zih]
    rfl
theorem Ze8 (x : GL10Case) (hP : Zha x.P) (hB : x.B.length ≤ 140737488355328) : Vc x=some true:=by
  by_cases h : Zab x.P=.nil
  · have ok:=Zh6 h
    have hrl:=Zc9 ok
    have hbl : (Kh x.P).length=15 + (Hd x.P).length:=by rw [Kh,List.length_append,Zaq]
    have hs : Ki x.P=Kh x.P ++ Zfg (Zfz (Kh x.P)):=rfl
    have h4 : (Zfg (Zfz (Kh x.P))).length=4:=rfl
    have hlen : (Ki x.P).length=(Kh x.P).length + 4:=by rw [Ki,List.length_append,h4]
    have w : ∀ k : Nat,k ≤ 4 → IntKind.i64.wrap ((((Ki x.P).length : Nat) : Int) - ((k : Nat) : Int))=(((Kh x.P).length + (4 - k) : Nat) : Int):=fun k hk=>by rw [Xa ⟨by omega,by omega⟩];omega
    have w4 : IntKind.i64.wrap ((((Ki x.P).length : Nat) : Int) - 4)=(((Kh x.P).length + 0 : Nat) : Int):=w 4 (by omega)
    have w3 : IntKind.i64.wrap ((((Ki x.P).length : Nat) : Int) - 3)=(((Kh x.P).length + 1 : Nat) : Int):=w 3 (by omega)
    have w2 : IntKind.i64.wrap ((((Ki x.P).length : Nat) : Int) - 2)=(((Kh x.P).length + 2 : Nat) : Int):=w 2 (by omega)
    have w1 : IntKind.i64.wrap ((((Ki x.P).length : Nat) : Int) - 1)=(((Kh x.P).length + 3 : Nat) : Int):=w 1 (by omega)
    have g : ∀ (j : Nat) (c : UInt8),(Zfg (Zfz (Kh x.P)))[j]? = some c → rdI (Ki x.P) (((Kh x.P).length + j : Nat) : Int)=some c:=fun j c hc=>by
      unfold rdI
      rw [if_pos (by omega),Int.toNat_natCast,hs,List.getElem?_append_right (by omega),Nat.add_sub_cancel_left]
      exact hc
    have g0:=g 0 _ rfl
    have g1:=g 1 _ rfl
    have g2:=g 2 _ rfl
    have g3:=g 3 _ rfl
    have hl19 : ¬ (Ki x.P).length < 19:=by omega
    have hb:=Zm9 (Zqg (Kh x.P))
    rw [← Zoj] at hb
    have tail:=Zf6 x hB
    simp only [Vc,Ys,Ze1,Zg4,h,Zms x.P hP,Hw h,Zfh h,Zna h,Zih,hl19,w1,w2,w3,w4,g0,g1,g2,g3,hb,decide_true,decide_false,Bool.not_true,Bool.not_false,cond_true,cond_false,Option.bind_some]
    exact tail
  · have tail:=Zf6 x hB
    simp only [Vc,Ze1,Zg4,h,decide_false,Bool.not_true,cond_false,Option.bind_some]
    exact tail
end Go.Proofs.YtfemfiiagjnhdaaGreatDoor
