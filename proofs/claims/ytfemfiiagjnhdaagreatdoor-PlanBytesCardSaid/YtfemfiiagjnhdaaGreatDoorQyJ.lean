/- Part of a claim, shortened by a program from its texts: PlanLPb, WireLPb, CurLPb, PlanKPb, SeeLPb, SameKPb, CrcLPb, ReadLPb, TurnRPb, PDocLPb, PDocRPb. -/
import Derived.Test.YtfemfiiagjnhdaaGreatDoorQyD
set_option linter.unusedVariables false
set_option linter.unusedSimpArgs false
set_option linter.unusedSectionVars false
namespace Go.Proofs.YtfemfiiagjnhdaaGreatDoor
open Go Go.RowKit
section
variable {α ε σ ρ : Type}
def Kf (f : Nat → α → Option ε) : Nat → List α → Option ε
  | _,[]=>none
  | k,x :: r=>match f k x with
    | some e=>some e
    | none=>Kf f (k + 1) r
theorem Zc4 {ε' : Type} {f : Nat → α → Option ε} {g : Nat → α → Option ε'} {m : ε → ε'} : ∀ (l : List α) (k : Nat),(∀ i x,l[i]? = some x → g (k + i) x=(f (k + i) x).map m) → Kf g k l=(Kf f k l).map m
  | [],_,_=>rfl
  | x :: r,k,h=>by
    have h0 : g k x=(f k x).map m:=h 0 x rfl
    have h1:=Zc4 (m:=m) r (k + 1) fun i y hy=>(show k + (i + 1)=k + 1 + i by omega) ▸ h (i + 1) y (by simpa using hy)
    rw [Kf,Kf,h0,h1]
    cases f k x <;> rfl
def fin (o : Option ε) : Unit ⊕ ε:=match o with
  | none=>.inl ()
  | some e=>.inr e
def nxt (s : σ) (o : Option ε) : σ ⊕ (Unit ⊕ ε):=match o with
  | none=>.inl s
  | some e=>.inr (.inr e)
theorem Za3 (s : σ) (e : ε) : nxt s (some e)=.inr (.inr e):=rfl
theorem Zdk (s : σ) : nxt s (none : Option ε)=.inl s:=rfl
theorem Zka (s : σ) (c : Prop) [Decidable c] (a b : Option ε) : nxt s (if c then a else b)=if c then nxt s a else nxt s b:=by split <;> rfl
theorem Gv {L : Nat → Option (Nat ⊕ (Unit ⊕ ε))} {l : List α} {f : Nat → α → Option ε}
    (h : ∀ i x,i < l.length → l[i]? = some x → L i=some (nxt (i + 1) (f i x))) (h2 : L l.length=some (.inr (.inl ()))) :
    Vj L 0=some (fin (Kf f 0 l)):=by
  have key : ∀ m k,k + m=l.length → Vj L k=some (fin (Kf f k (l.drop k))):=by
    intro m
    induction m with
    | zero=>
      intro k hk
      obtain rfl : k=l.length:=by omega
      rw [Ka h2,List.drop_length];rfl
    | succ m ih=>
      intro k hk
      have hlt : k < l.length:=by omega
      have hx : l[k]? = some l[k]:=List.getElem?_eq_getElem hlt
      have hd : l.drop k=l[k] :: l.drop (k + 1):=List.drop_eq_getElem_cons hlt
      have hs:=h k _ hlt hx
      rw [hd]
      cases hf : f k l[k] with
      | none=>rw [hf] at hs;rw [Xi hs,ih (k + 1) (by omega),Kf,hf]
      | some e=>rw [hf] at hs;rw [Ka hs,Kf,hf];rfl
  simpa using key l.length 0 (by omega)
theorem Zh1 {L : σ × Nat → Option ((σ × Nat) ⊕ σ)} {l : List α} {g : σ → α → σ} {I : σ → Nat → Prop} {z : σ} (h0 : I z 0)
    (h : ∀ i x z,i < l.length → l[i]? = some x → I z i → L (z,i)=some (.inl (g z x,i + 1)) ∧ I (g z x) (i + 1)) (h2 : ∀ z,I z l.length → L (z,l.length)=some (.inr z)) :
    Vj L (z,0)=some (l.foldl g z) ∧ I (l.foldl g z) l.length:=by
  have key : ∀ m k z,k + m=l.length → I z k → Vj L (z,k)=some ((l.drop k).foldl g z) ∧ I ((l.drop k).foldl g z) l.length:=by
    intro m
    induction m with
    | zero=>
      intro k z hk hI
      obtain rfl : k=l.length:=by omega
      rw [Ka (h2 z hI),List.drop_length];exact⟨rfl,hI⟩
    | succ m ih=>
      intro k z hk hI
      have hlt : k < l.length:=by omega
      have hx : l[k]? = some l[k]:=List.getElem?_eq_getElem hlt
      have hd : l.drop k=l[k] :: l.drop (k + 1):=List.drop_eq_getElem_cons hlt
      have hs:=h k _ z hlt hx hI
      rw [hd,Xi hs.1,List.foldl_cons]
      exact ih (k + 1) _ (by omega) hs.2
  simpa using key l.length 0 z (by omega) h0
end
theorem cRange : (ErrM.v Kl).code=4:=by decide
theorem cPlan : (ErrM.v Hr).code=8:=by decide
theorem cNil : ErrM.nil.code=0:=rfl
theorem cPl (p : Int) (g : Nat) : (ErrM.pl p g).code=(ErrM.v g).code:=rfl
theorem pPl (p : Int) (g : Nat) : (ErrM.pl p g).place=p:=rfl
theorem pV (g : Nat) : (ErrM.v g).place=-1:=rfl
theorem pNil : ErrM.nil.place=-1:=rfl
theorem Zft {e : ErrM} : e.code=0 ↔ e=.nil:=by
  cases e with
  | nil=>simp [cNil]
  | v g=>simp only [ErrM.code,ErrM.g?,Zrl];constructor <;> intro h <;> first | omega | cases h
  | pl p g=>simp only [ErrM.code,ErrM.g?,Zrl];constructor <;> intro h <;> first | omega | cases h
def Zga (p : GPortPlan) : ErrM:=
  if p.Kind < 1 ∨ 4 < p.Kind then .v Zin
  else if p.Size < 1 ∨ 32 < p.Size then .v Zaz
  else if p.Depth < 1 ∨ (if 3 ≤ p.Kind then 8 else 1) < p.Depth ∨ p.Refresh < 0 ∨ (if p.Kind=1 then 255 else 0) < p.Refresh then .v Kl
  else .nil
theorem Zek (p : GPortPlan) : Vk p=some (Zga p):=by
  have hk : (p.Kind < 1 ∨ 4 < p.Kind) ∨ p.Kind=1 ∨ p.Kind=2 ∨ p.Kind=3 ∨ p.Kind=4:=by omega
  rcases hk with h|h|h|h|h
  all_goals
    unfold Vk Wz Wy Wx Zaf Zdg Tf Zga
    first
    | (have h1 : ¬ p.Kind=1 := by omega
       have h2 : ¬ p.Kind=2:=by omega
       have h3 : ¬ p.Kind=3:=by omega
       have h4 : ¬ p.Kind=4:=by omega
       simp [h1,h2,h3,h4,h])
    | (simp [h,Bool.cond_eq_ite];repeat' split
       all_goals first | rfl | omega | simp_all)
theorem Zfu (p : GPortPlan) : Wp p=some (Zga p).code:=by
  have hk : (p.Kind < 1 ∨ 4 < p.Kind) ∨ p.Kind=1 ∨ p.Kind=2 ∨ p.Kind=3 ∨ p.Kind=4:=by omega
  rcases hk with h|h|h|h|h
  all_goals
    unfold Wp Zga
    simp [h,Bool.cond_eq_ite]
    try (repeat' split
         all_goals first | rfl | omega | (simp_all;omega))
def Zh2 (i : Nat) (x : GPagePlan) : Option ErrM:=if x.Rights < 0 ∨ 7 < x.Rights then some (.pl i Kl) else if 64 < x.Init.size then some (.pl i Vv) else none
def orN (o : Option ErrM) : ErrM:=o.getD .nil
def Zdo (p : GPlan) : ErrM:=if p.Pages.length < 1 ∨ 32 < p.Pages.length then .v Zaz else orN (Kf Zh2 0 p.Pages)
theorem Zms (i : Int) (g : Nat) : Zam i (.v g)=some (.pl i g):=rfl
theorem Zom (p : GPlan) : Wk p=some (Zdo p):=by
  have h:=Gv (L:=Kg p) (l:=p.Pages) (f:=Zh2) (fun i x hi hx=>by
    simp only [Kg,hi,hx,decide_true,cond_true,Option.bind_some,Zms,Bool.cond_eq_ite,Bool.or_eq_true,decide_eq_true_eq,Zh2,Zka,Za3,Zdk]
    repeat' split
    all_goals first | rfl | (simp_all;done) | omega) (by simp [Kg])
  simp only [Wk,h,Zdo,Option.bind_some,Bool.cond_eq_ite,Bool.or_eq_true,decide_eq_true_eq]
  cases Kf Zh2 0 p.Pages <;> (split <;> rfl)
def Zh3 (n : Nat) (i : Nat) (x : GProcPlan) : Option ErrM:=if x.Entry < 0 ∨ IntKind.i64.wrap (64 * (n : Int)) ≤ x.Entry ∨ Int.tmod x.Entry 4 ≠ 0 ∨ x.Prio < 0 ∨ 255 < x.Prio then some (.pl i Kl) else none
def Zdp (p : GPlan) : ErrM:=if p.Procs.length < 1 ∨ 8 < p.Procs.length then .v Zaz else orN (Kf (Zh3 p.Pages.length) 0 p.Procs)
theorem Zon (p : GPlan) : Wl p=some (Zdp p):=by
  have h:=Gv (L:=Kh p) (l:=p.Procs) (f:=Zh3 p.Pages.length) (fun i x hi hx=>by
    simp only [Kh,Wd,hi,hx,decide_true,cond_true,Option.bind_some,Zms,Bool.cond_eq_ite,decide_eq_true_eq,Zh3,Zka,Za3,Zdk,Bool.not_eq_true',decide_eq_false_iff_not]
    repeat' split
    all_goals first | rfl | omega | (simp_all;done) | (simp_all;omega)) (by simp [Kh])
  simp only [Wl,h,Zdp,Option.bind_some,Bool.cond_eq_ite,Bool.or_eq_true,decide_eq_true_eq]
  cases Kf (Zh3 p.Pages.length) 0 p.Procs <;> (split <;> rfl)
def Zbt (i : Nat) (x : GPortPlan) : Option ErrM:=match Zga x with
  | .v g=>some (.pl i g)
  | _=>none
theorem Zdl (x : GPortPlan) : Zga x=.nil ∨ ∃ g,Zga x=.v g:=by
  unfold Zga
  repeat' split
  all_goals first | exact .inl rfl | exact .inr ⟨_,rfl⟩
def Zd3 (p : GPlan) : ErrM:=if 8 < p.Ports.length then .v Zaz else orN (Kf Zbt 0 p.Ports)
def Zmt (i : Nat) (x : Int) : Option ErrM:=if x < 0 ∨ 255 < x then some (.pl i Kl) else none
def Zbu (p : GPlan) : ErrM:=if p.Events < 0 ∨ 8 < p.Events then .v Kl else if 8 < p.Sems.length then .v Zaz else orN (Kf Zmt 0 p.Sems)
def Zmu (x : GPortPlan) : Int:=if Zga x ≠ .nil then 0 else if x.Kind=2 ∨ x.Kind=4 then 2 else IntKind.i64.wrap (2 + IntKind.i64.wrap (x.Depth * IntKind.i64.wrap (1 + x.Size)))
def Zel (p : GPlan) : Int:=p.Ports.foldl (fun z x=>IntKind.i64.wrap (z + IntKind.i64.wrap (3 + Zmu x))) (IntKind.i64.wrap ((IntKind.i64.wrap ((IntKind.i64.wrap ((IntKind.i64.wrap (58 + (IntKind.i64.wrap (76 * ((p.Procs.length : Nat) : Int))))) + (IntKind.i64.wrap (68 * ((p.Pages.length : Nat) : Int))))) + p.Events)) + ((p.Sems.length : Nat) : Int)))
theorem Zp9 (x : GPortPlan) : ∃ e,Zbe x=some (Zmu x,e):=by
  simp only [Zbe,Zek,Option.bind_some,Zmu,Tf,Bool.cond_eq_ite,Bool.not_eq_true',decide_eq_false_iff_not,Bool.or_eq_true,decide_eq_true_eq]
  repeat' split
  all_goals first | exact⟨_,rfl⟩ | (simp_all;done)
theorem Zr6 (x : GPortPlan) : ∃ e,Zcu x=some (Zmu x,e):=by
  simp only [Zcu,Zfu,Option.bind_some,Zmu,Bool.cond_eq_ite,Bool.not_eq_true',decide_eq_false_iff_not,Zft,decide_eq_true_eq]
  by_cases h : Zga x=.nil
  · simp only [h,not_true_eq_false,if_false,ne_eq]
    have hk : 1 ≤ x.Kind ∧ x.Kind ≤ 4 ∧ 1 ≤ x.Depth ∧ (x.Kind ≤ 2 → x.Depth=1) ∧ 1 ≤ x.Size ∧ x.Size ≤ 32:=by
      unfold Zga at h
      repeat' split at h
      all_goals first | (cases h;done) | omega
    repeat' split
    all_goals first | (exact⟨_,rfl⟩) | omega | skip
    have h1 : x.Depth=1:=by omega
    refine⟨0,?_⟩
    rw [h1,Int.one_mul]
    congr 2
    have e1 : IntKind.i64.wrap (1 + x.Size)=1 + x.Size:=Qb ⟨by omega,by omega⟩
    rw [e1,e1]
    congr 1
    omega
  · simp only [h,not_false_eq_true,if_true,ne_eq]
    exact⟨_,rfl⟩
theorem Zi8 (p : GPlan) : Tg p=some (Zel p):=by
  have h:=Zh1 (L:=Wm p) (l:=p.Ports) (g:=fun z x=>IntKind.i64.wrap (z + IntKind.i64.wrap (3 + Zmu x))) (I:=fun _ _=>True)
    (z:=IntKind.i64.wrap ((IntKind.i64.wrap ((IntKind.i64.wrap ((IntKind.i64.wrap (58 + (IntKind.i64.wrap (76 * ((p.Procs.length : Nat) : Int))))) + (IntKind.i64.wrap (68 * ((p.Pages.length : Nat) : Int))))) + p.Events)) + ((p.Sems.length : Nat) : Int))) trivial
    (fun i x z hi hx _=>⟨by
      obtain⟨e,he⟩:=Zp9 x
      simp only [Wm,hi,hx,decide_true,cond_true,Option.bind_some,he],trivial⟩) (fun z _=>by simp [Wm])
  simp only [Tg,h.1,Option.bind_some,Zel]
theorem Zqa (p : GPlan) : Zbn p=some (Zel p):=by
  have h:=Zh1 (L:=Uy p) (l:=p.Ports) (g:=fun z x=>IntKind.i64.wrap (z + IntKind.i64.wrap (3 + Zmu x))) (I:=fun _ _=>True)
    (z:=IntKind.i64.wrap ((IntKind.i64.wrap ((IntKind.i64.wrap ((IntKind.i64.wrap (58 + (IntKind.i64.wrap (76 * ((p.Procs.length : Nat) : Int))))) + (IntKind.i64.wrap (68 * ((p.Pages.length : Nat) : Int))))) + p.Events)) + ((p.Sems.length : Nat) : Int))) trivial
    (fun i x z hi hx _=>⟨by
      obtain⟨e,he⟩:=Zr6 x
      simp only [Uy,hi,hx,decide_true,cond_true,Option.bind_some,he],trivial⟩) (fun z _=>by simp [Uy])
  simp only [Zbn,h.1,Option.bind_some,Zel]
def orE (a b : ErrM) : ErrM:=if a=.nil then b else a
def Zqb (p : GPlan) : ErrM:=orE (Zd3 p) (orE (Zbu p) (if 4096 < Zel p then .v Zaz else .nil))
theorem Zqc (p : GPlan) : Uq p=some (Zqb p):=by
  have h2:=Gv (L:=Kp p) (l:=p.Ports) (f:=Zbt) (fun i x hi hx=>by
    simp only [Kp,hi,hx,decide_true,cond_true,Option.bind_some,Zek,Zbt]
    rcases Zdl x with h | ⟨g,h⟩
    · rw [h];rfl
    · rw [h];rfl) (by simp [Kp])
  have h1:=Gv (L:=Ko p) (l:=p.Sems) (f:=Zmt) (fun i x hi hx=>by
    simp only [Ko,hi,hx,decide_true,cond_true,Option.bind_some,Zms,Bool.cond_eq_ite,Bool.or_eq_true,decide_eq_true_eq,Zmt,Zka,Za3,Zdk,if_true]
    split <;> rfl) (by simp [Ko])
  simp only [Uq,h1,h2,Zi8,Option.bind_some,Bool.cond_eq_ite,Bool.or_eq_true,decide_eq_true_eq,Zqb,Zd3,Zbu]
  have hp : ∀ e,Kf Zbt 0 p.Ports=some e → e ≠ .nil:=by
    have key : ∀ (l : List GPortPlan) k e,Kf Zbt k l=some e → e ≠ .nil:=by
      intro l
      induction l with
      | nil=>intro k e h;cases h
      | cons x r ih=>
        intro k e h
        rcases Zdl x with hs | ⟨g,hs⟩
        · simp only [Kf,Zbt,hs] at h;exact ih _ _ h
        · simp only [Kf,Zbt,hs,Option.some.injEq] at h;subst h;intro h;cases h
    exact key _ _
  have hq : ∀ e,Kf Zmt 0 p.Sems=some e → e ≠ .nil:=by
    have key : ∀ (l : List Int) k e,Kf Zmt k l=some e → e ≠ .nil:=by
      intro l
      induction l with
      | nil=>intro k e h;cases h
      | cons x r ih=>
        intro k e h
        by_cases hs : x < 0 ∨ 255 < x
        · simp only [Kf,Zmt,if_pos hs,Option.some.injEq] at h;subst h;intro h;cases h
        · simp only [Kf,Zmt,if_neg hs] at h;exact ih _ _ h
    exact key _ _
  by_cases c1 : 8 < p.Ports.length
  · simp only [c1,if_true,orE];rfl
  simp only [c1,if_false]
  cases h3 : Kf Zbt 0 p.Ports with
  | some e=>
    have:=hp e h3
    simp only [fin,orN,Option.getD_some,orE,this,if_false]
  | none=>
    simp only [fin,orN,Option.getD_none,orE,if_true]
    by_cases c2 : p.Events < 0 ∨ 8 < p.Events
    · simp only [c2,if_true];rfl
    simp only [c2,if_false]
    by_cases c3 : 8 < p.Sems.length
    · simp only [c3,if_true];rfl
    simp only [c3,if_false]
    cases h4 : Kf Zmt 0 p.Sems with
    | some e=>
      have:=hq e h4
      simp only [fin,orN,Option.getD_some,this,if_false]
    | none=>
      simp only [fin,orN,Option.getD_none,if_true]
      split <;> rfl
def Hu (p : GPlan) : ErrM:=if p.Id < 0 ∨ 2147483647 < p.Id then .v Kl else orE (Zdo p) (orE (Zdp p) (Zqb p))
theorem Zbb (p : GPlan) : Kz p=some (Hu p):=by
  simp only [Kz,Zom,Zon,Zqc,Option.bind_some,Bool.cond_eq_ite,Bool.or_eq_true,decide_eq_true_eq,Hu,Bool.not_eq_true',decide_eq_false_iff_not,orE]
  repeat' split
  all_goals first | rfl | (simp_all;done)
def eR (e : ErrM) : GR10Err:=⟨e.code,e.place⟩
theorem Zqd (p : GPlan) : Zbk p=some (eR (Zdo p)):=by
  have h:=Gv (L:=Wo p) (l:=p.Pages) (f:=fun i x=>(Zh2 i x).map eR) (fun i x hi hx=>by
    simp only [Wo,Ts,hi,hx,decide_true,cond_true,Option.bind_some,Bool.cond_eq_ite,decide_eq_true_eq,Zh2]
    by_cases c1 : x.Rights < 0
    · simp only [c1,if_true,true_or,Option.bind_some,Option.map_some,Za3];rfl
    by_cases c2 : 7 < x.Rights
    · simp only [c1,c2,if_true,if_false,decide_true,or_true,Option.bind_some,Option.map_some,Za3];rfl
    by_cases c3 : 64 < x.Init.size
    · simp [c1,c2,c3,Za3];rfl
    · simp [c1,c2,c3,Zdk]) (by simp [Wo])
  simp only [Zbk,Vp,Vl,h,Zdo,Option.bind_some,Bool.cond_eq_ite,Bool.or_eq_true,decide_eq_true_eq]
  rw [Zc4 (f:=Zh2) (m:=eR) _ _ fun _ _ _=>rfl]
  cases Kf Zh2 0 p.Pages <;> (split <;> rfl)
theorem Zqe (p : GPlan) : Zbl p=some (eR (Zdp p)):=by
  have h:=Gv (L:=Uw p) (l:=p.Procs) (f:=fun i x=>(Zh3 p.Pages.length i x).map eR) (fun i x hi hx=>by
    by_cases c1 : x.Entry < 0 <;> by_cases c2 : IntKind.i64.wrap (64 * (p.Pages.length : Int)) ≤ x.Entry <;> by_cases c3 : Int.tmod x.Entry 4=0 <;> by_cases c4 : x.Prio < 0 <;> by_cases c5 : 255 < x.Prio
    all_goals
      simp only [Uw,Zai,hi,hx,decide_true,decide_false,cond_true,cond_false,Option.bind_some,Zh3,c1,c2,c3,c4,c5,Bool.not_true,Bool.not_false,true_or,or_true,or_false,false_or,if_true,if_false,ne_eq,not_true_eq_false,not_false_eq_true]
      rfl) (by simp [Uw])
  simp only [Zbl,Vp,Vl,h,Zdp,Option.bind_some,Bool.cond_eq_ite,Bool.or_eq_true,decide_eq_true_eq]
  rw [Zc4 (f:=Zh3 p.Pages.length) (m:=eR) _ _ fun _ _ _=>rfl]
  cases Kf (Zh3 p.Pages.length) 0 p.Procs <;> (split <;> rfl)
theorem Zqf (p : GPlan) : Zbm p=some (eR (Zd3 p)):=by
  have h:=Gv (L:=Ux p) (l:=p.Ports) (f:=fun i x=>(Zbt i x).map eR) (fun i x hi hx=>by
    simp only [Ux,hi,hx,decide_true,cond_true,Option.bind_some,Zfu,Bool.cond_eq_ite,Bool.not_eq_true',decide_eq_false_iff_not,Zft,Zbt]
    rcases Zdl x with h | ⟨g,h⟩
    · rw [h];rfl
    · rw [h,if_pos (show ¬ ErrM.v g=.nil from fun h=>by cases h)];rfl) (by simp [Ux])
  simp only [Zbm,Vp,Vl,h,Zd3,Option.bind_some,Bool.cond_eq_ite,decide_eq_true_eq]
  rw [Zc4 (f:=Zbt) (m:=eR) _ _ fun _ _ _=>rfl]
  cases Kf Zbt 0 p.Ports <;> (split <;> rfl)
theorem Zoo (p : GPlan) : Zao p=some (eR (Zbu p)):=by
  have h:=Gv (L:=Wq p) (l:=p.Sems) (f:=fun i x=>(Zmt i x).map eR) (fun i x hi hx=>by
    by_cases c1 : x < 0 <;> by_cases c2 : 255 < x
    all_goals
      simp only [Wq,Tt,hi,hx,decide_true,decide_false,cond_true,cond_false,Option.bind_some,Zmt,c1,c2,true_or,or_true,or_false,false_or,if_true,if_false]
      rfl) (by simp [Wq])
  simp only [Zao,Vp,Vl,h,Zbu,Option.bind_some,Bool.cond_eq_ite,Bool.or_eq_true,decide_eq_true_eq]
  rw [Zc4 (f:=Zmt) (m:=eR) _ _ fun _ _ _=>rfl]
  by_cases c1 : p.Events < 0 ∨ 8 < p.Events
  · simp only [c1,if_true];rfl
  by_cases c2 : 8 < p.Sems.length
  · simp only [c1,c2,if_true,if_false];rfl
  simp only [c1,c2,if_false]
  cases Kf Zmt 0 p.Sems <;> rfl
theorem Zqg (p : GPlan) : Zbo p=some (eR (Hu p)):=by
  simp only [Zbo,Zqd,Zqe,Zqf,Zoo,Zqa,Vp,Vl,Option.bind_some,Bool.cond_eq_ite,Bool.or_eq_true,decide_eq_true_eq,Hu,Zqb,orE]
  have hL : ∀ i x,i < 4 → [eR (Zdo p),eR (Zdp p),eR (Zd3 p),eR (Zbu p)][i]? = some x → Vz (eR (Zdo p)) (eR (Zdp p)) (eR (Zd3 p)) (eR (Zbu p)) i=some (nxt (i + 1) (if x.Code=0 then none else some x)):=by
    intro i x hi hx
    have hi' : i < [eR (Zdo p),eR (Zdp p),eR (Zd3 p),eR (Zbu p)].length:=hi
    simp only [Vz,hi',hx,decide_true,cond_true,Option.bind_some,Bool.cond_eq_ite,Bool.not_eq_true',decide_eq_false_iff_not]
    by_cases c : x.Code=0
    · simp only [c,not_true_eq_false,if_false,if_true,Zdk]
    · simp only [c,not_false_eq_true,if_false,if_true,Za3]
  have h:=Gv (L:=Vz (eR (Zdo p)) (eR (Zdp p)) (eR (Zd3 p)) (eR (Zbu p))) (l:=[eR (Zdo p),eR (Zdp p),eR (Zd3 p),eR (Zbu p)]) (f:=fun _ x=>if x.Code=0 then none else some x) hL (by simp [Vz])
  rw [h]
  have hc : ∀ e : ErrM,(eR e).Code=0 ↔ e=.nil:=fun e=>Zft
  simp only [Kf,hc]
  by_cases c0 : p.Id < 0 ∨ 2147483647 < p.Id
  · simp only [c0,if_true];rfl
  simp only [c0,if_false]
  by_cases c1 : Zdo p=.nil
  · simp only [c1,if_true]
    by_cases c2 : Zdp p=.nil
    · simp only [c2,if_true]
      by_cases c3 : Zd3 p=.nil
      · simp only [c3,if_true]
        by_cases c4 : Zbu p=.nil
        · simp only [c4,if_true]
          show Option.bind (some (Sum.inl ())) _=_
          by_cases c5 : 4096 < Zel p
          · simp only [c5,if_true,Option.bind_some];rfl
          · simp only [c5,if_false,Option.bind_some];rfl
        · simp only [c4,if_false];rfl
      · simp only [c3,if_false];rfl
    · simp only [c2,if_false];rfl
  · simp only [c1,if_false];rfl
theorem Znr (p : GPlan) : Zcv p=some (decide (Hu p=.nil)):=by
  have : ((eR (Hu p)).Code=0)=(Hu p=.nil):=propext Zft
  simp only [Zcv,Zqg,Option.bind_some,this]
end Go.Proofs.YtfemfiiagjnhdaaGreatDoor
set_option linter.unusedVariables false
set_option linter.unusedSimpArgs false
set_option linter.unusedSectionVars false
namespace Go.Proofs.YtfemfiiagjnhdaaGreatDoor
open Go Go.RowKit
abbrev wr (b : List UInt8) : GWireWriter:=⟨b,.nil⟩
theorem Zns (a b : List UInt8) (h : a.length + b.length ≤ 100000000) : Xr (wr a) b=some (wr (a ++ b)):=by
  have hc : (a.length + b.length) * 1 ≤ 140737488355328:=by omega
  simp only [Xr,decide_true,cond_true,chk,hc,if_true]
def be (n : Int) : Nat → List UInt8
  | 0=>[]
  | k + 1=>Zt (shR .i64 n (((8 * k : Nat) : Int))) :: be n k
theorem Xg (n : Int) : ∀ k,(be n k).length=k
  | 0=>rfl
  | k + 1=>by rw [be,List.length_cons,Xg n k]
theorem Znt (n : Int) : ∀ (k : Nat) (a : List UInt8),k ≤ 4 → a.length + k ≤ 1000000 → Vj (Jg n) (((k : Nat) : Int) - 1,a,.nil)=some (a ++ be n k,.nil)
  | 0,a,_,_=>by
    have h : ¬ (0 : Int) ≤ ((0 : Nat) : Int) - 1:=by omega
    rw [be,List.append_nil]
    exact Ka (by simp only [Jg,h,decide_false,cond_false])
  | k + 1,a,hk,ha=>by
    have e0 : ((k + 1 : Nat) : Int) - 1=(k : Int):=by omega
    have e1 : (0 : Int) ≤ (k : Int):=by omega
    have e2 : IntKind.i64.wrap (8 * (k : Int))=((8 * k : Nat) : Int):=by rw [Qb ⟨by omega,by omega⟩];omega
    have e3 : (0 : Int) ≤ ((8 * k : Nat) : Int):=by omega
    have e4 : IntKind.i64.wrap ((k : Int) - 1)=(k : Int) - 1:=Qb ⟨by omega,by omega⟩
    have hp:=Zns a [Zt (shR .i64 n ((8 * k : Nat) : Int))] (by simp;omega)
    have hs : Jg n ((k : Int),a,.nil)=some (.inl ((k : Int) - 1,a ++ [Zt (shR .i64 n ((8 * k : Nat) : Int))],.nil)):=by
      simp only [Jg,e1,e2,e3,e4,hp,decide_true,cond_true,chk,if_true,Option.bind_some]
    rw [e0,Xi hs,Znt n k _ (by omega) (by simp;omega),be,List.append_assoc,List.singleton_append]
theorem Zr7 : Kq 1=some 255:=by
  have h : (0 : Int) ≤ IntKind.i64.wrap (8 * 1):=by decide
  simp only [Kq,chk,h,if_true];rfl
theorem most2 : Kq 2=some 65535:=by
  have h : (0 : Int) ≤ IntKind.i64.wrap (8 * 2):=by decide
  simp only [Kq,chk,h,if_true];rfl
theorem most4 : Kq 4=some 4294967295:=by
  have h : (0 : Int) ≤ IntKind.i64.wrap (8 * 4):=by decide
  simp only [Kq,chk,h,if_true];rfl
theorem Zln {n m : Int} {k : Nat} (hm : Kq (k : Int)=some m) (a : List UInt8) (hk : k ≤ 4) (ha : a.length ≤ 900000) (h0 : 0 ≤ n) (h1 : n ≤ m) : Qq (wr a) n (k : Int)=some (wr (a ++ be n k)):=by
  have e1 : ¬ n < 0:=by omega
  have e2 : ¬ m < n:=by omega
  have e3 : IntKind.i64.wrap ((k : Int) - 1)=(k : Int) - 1:=Qb ⟨by omega,by omega⟩
  simp only [Qq,We,hm,e1,e2,e3,Znt n k a hk (by omega),decide_false,cond_false,Option.bind_some]
def Zfv (z : Int) : Int:=if Zho .u32 z 1=1 then Uo .u32 (shR .u32 z 1) 3988292384 else shR .u32 z 1
theorem Zr8 (z : Int) : Zcr z=some (Zfv z):=by
  unfold Zcr Zfv
  by_cases h : Zho .u32 z 1=1 <;> simp [h]
def Zr9 (z : Int) : Int:=Zfv (Zfv (Zfv (Zfv (Zfv (Zfv (Zfv (Zfv z)))))))
theorem Zun (z : Int) : Vj Vw (z,0)=some (Zr9 z):=by
  have hs : ∀ z (i : Nat),i < 8 → Vw (z,i)=some (.inl (Zfv z,i + 1)):=fun z i h=>by
    simp only [Vw,h,Zr8,decide_true,cond_true,Option.bind_some]
  rw [Xi (hs _ 0 (by omega)),Xi (hs _ 1 (by omega)),Xi (hs _ 2 (by omega)),Xi (hs _ 3 (by omega)),Xi (hs _ 4 (by omega)),Xi (hs _ 5 (by omega)),Xi (hs _ 6 (by omega)),Xi (hs _ 7 (by omega))]
  exact Ka (by simp [Vw];rfl)
def Zmv (k : Nat) : Vector Int 256:=Vector.ofFn fun j : Fin 256=>if j.val < k then Zr9 (IntKind.u32.wrap (j.val : Int)) else 0
theorem Zlo (k i : Nat) (h : i < 256) : (Zmv k)[i]=if i < k then Zr9 (IntKind.u32.wrap (i : Int)) else 0:=by simp [Zmv]
theorem Zqh : Zbf=some (Zmv 256):=by
  have key : ∀ (m k : Nat) (y : Vector Int 256),k + m=256 → (∀ (j : Nat) (h : j < 256),j < k → y[j]=Zr9 (IntKind.u32.wrap (j : Int))) → Vj Vx (k,y)=some (Zmv 256):=by
    intro m
    induction m with
    | zero=>
      intro k y hk hy
      obtain rfl : k=256:=by omega
      have e : y=Zmv 256:=by
        apply Vector.ext
        intro i hi
        rw [hy i hi hi,Zlo _ _ hi,if_pos hi]
      rw [e]
      exact Ka (by simp [Vx])
    | succ m ih=>
      intro k y hk hy
      have hlt : k < 256:=by omega
      have hr : rdV y (k : Int)=some y[k]:=by rw [Ztw];simp [hlt]
      have hs : Vx (k,y)=some (.inl (k + 1,y.setIfInBounds k (Zr9 (IntKind.u32.wrap (k : Int))))):=by
        simp only [Vx,hlt,Zun,hr,decide_true,cond_true,Option.bind_some,Int.toNat_natCast]
      rw [Xi hs]
      refine ih (k + 1) _ (by omega) fun j h hj=>?_
      rw [Vector.getElem_setIfInBounds h]
      by_cases e : k=j
      · subst e;simp
      · rw [if_neg e];exact hy j h (by omega)
  unfold Zbf
  rw [key 256 0 _ rfl (fun j h hj=>absurd hj (Nat.not_lt_zero _))]
  rfl
def Zmw (z : Int) (c : UInt8) : Int:=Uo .u32 (Zr9 (IntKind.u32.wrap (Uo .u8 (IntKind.u8.wrap z) (c.toNat : Int)))) (shR .u32 z 8)
theorem xor8 (a b : Int) : 0 ≤ Uo .u8 a b ∧ Uo .u8 a b < 256:=by
  unfold Uo
  generalize ((BitVec.ofInt IntKind.u8.bits a ^^^ BitVec.ofInt IntKind.u8.bits b).toNat : Int)=z
  have h : IntKind.u8.wrap z=z % 256:=by simp [IntKind.wrap,IntKind.signed,IntKind.bits]
  rw [h];omega
theorem Zsa (z : Int) (b : List UInt8) : Za7 z b=some (b.foldl Zmw z):=by
  by_cases h : b.length=0
  · have : b=[]:=List.length_eq_zero_iff.1 h
    subst this
    simp [Za7]
  have hL:=Zh1 (L:=Gy b (Zmv 256)) (l:=b) (g:=Zmw) (I:=fun _ _=>True) (z:=z) trivial (fun i x z hi hx _=>⟨by
    obtain⟨h0,h1⟩:=xor8 (IntKind.u8.wrap z) (x.toNat : Int)
    have hr : rdV (Zmv 256) (Uo .u8 (IntKind.u8.wrap z) (x.toNat : Int))=some (Zr9 (IntKind.u32.wrap (Uo .u8 (IntKind.u8.wrap z) (x.toNat : Int)))):=by
      unfold rdV
      rw [if_pos h0]
      have hlt : (Uo .u8 (IntKind.u8.wrap z) (x.toNat : Int)).toNat < 256:=by omega
      rw [Vector.getElem?_eq_getElem hlt,Zlo _ _ hlt,if_pos hlt,Int.toNat_of_nonneg h0]
    simp only [Gy,hi,hx,hr,decide_true,cond_true,Option.bind_some,Zmw],trivial⟩) (fun z _=>by simp [Gy])
  simp only [Za7,h,Zqh,hL.1,decide_false,cond_false,Option.bind_some]
def Zh4 (b : List UInt8) : Int:=Zrc .u32 (b.foldl Zmw (Zrc .u32 0))
theorem Zkb (b : List UInt8) : Zbg b=some (Zh4 b):=by
  simp only [Zbg,Zd7,Zsa,Option.bind_some,Zrc];rfl
end Go.Proofs.YtfemfiiagjnhdaaGreatDoor
set_option linter.unusedVariables false
set_option linter.unusedSimpArgs false
set_option linter.unusedSectionVars false
namespace Go.Proofs.YtfemfiiagjnhdaaGreatDoor
open Go Go.RowKit
structure OkCur (c : GWireCursor) : Prop where
  a0 : 0 ≤ c.at_
  ab : c.at_ ≤ c.bound_
  bl : c.bound_ ≤ ((c.b_.length : Nat) : Int)
  sz : c.b_.length ≤ 140737488355328
theorem Qu (c : GWireCursor) : (⟨c.b_,c.at_,c.bound_⟩ : GWireCursor)=c:=rfl
def cut (b : List UInt8) (a n : Nat) : List UInt8:=(b.drop a).take n
theorem Zbv {b : List UInt8} {a n : Nat} (h : a + n ≤ b.length) : (cut b a n).length=n:=by
  rw [cut,List.length_take,List.length_drop];omega
theorem Ys (c : GWireCursor) (h : OkCur c) : Qs c=some (c.bound_ - c.at_,c):=by
  obtain⟨h1,h2,h3,h4⟩:=h
  have e : IntKind.i64.wrap (c.bound_ - c.at_)=c.bound_ - c.at_:=Qb ⟨by omega,by omega⟩
  simp only [Qu,Qs,e]
theorem Zkc (c : GWireCursor) (off w : Nat) (hw : w ≤ 4) (h : OkCur c) (ho : c.at_ + (off : Int) + (w : Int) ≤ ((c.b_.length : Nat) : Int)) :
    Xj c (off : Int) (w : Int)=some (Qz (cut c.b_ (c.at_.toNat + off) w),c):=by
  obtain⟨h1,h2,h3,h4⟩:=h
  have e1 : IntKind.i64.wrap (c.at_ + (off : Int))=c.at_ + (off : Int):=Qb ⟨by omega,by omega⟩
  have e2 : IntKind.i64.wrap (c.at_ + (off : Int) + (w : Int))=c.at_ + (off : Int) + (w : Int):=Qb ⟨by omega,by omega⟩
  have e3 : (c.at_ + (off : Int)).toNat=c.at_.toNat + off:=by omega
  have e4 : (c.at_ + (off : Int) + (w : Int)).toNat - (c.at_.toNat + off)=w:=by omega
  have hc : (c.b_.drop (c.at_.toNat + off)).take w=cut c.b_ (c.at_.toNat + off) w:=rfl
  have hl:=Zbv (b:=c.b_) (a:=c.at_.toNat + off) (n:=w) (by omega)
  have hch : 0 ≤ c.at_ + (off : Int) ∧ c.at_ + (off : Int) ≤ c.at_ + (off : Int) + (w : Int) ∧ c.at_ + (off : Int) + (w : Int) ≤ ((c.b_.length : Nat) : Int):=⟨by omega,by omega,ho⟩
  have hL : Vj (Xk c (off : Int) (w : Int)) (0,0)=some (Qz (cut c.b_ (c.at_.toNat + off) w)):=by
    generalize hl0 : cut c.b_ (c.at_.toNat + off) w=l at *
    have key : ∀ m k,k + m=l.length → Vj (Xk c (off : Int) (w : Int)) (Qz (l.take k),k)=some (Qz l):=by
      intro m
      induction m with
      | zero=>
        intro k hk
        have e : l.take k=l:=List.take_of_length_le (by omega)
        rw [e]
        exact Ka (by simp only [Qu,Xk,e1,e2,e3,e4,hc,hl0,show ¬ k < l.length by omega,decide_false,cond_false])
      | succ m ih=>
        intro k hk
        have hlt : k < l.length:=by omega
        have hx : l[k]? = some l[k]:=List.getElem?_eq_getElem hlt
        obtain⟨b0,b1⟩:=Zdf k (l.take k) (by rw [List.length_take];omega)
        have hk3 : k ≤ 3:=by omega
        have hb : Qz (l.take k) < 16777216:=by
          have : (256 : Int) ^ k ≤ 256 ^ 3:=by
            rcases (by omega : k=0 ∨ k=1 ∨ k=2 ∨ k=3) with rfl|rfl|rfl|rfl <;> decide
          have h3 : (256 : Int) ^ 3=16777216:=by decide
          omega
        have hcx:=(l[k]).toNat_lt
        have ho8:=or8 (z:=(8 : Int).toNat) b0 hb (x:=((l[k]).toNat : Int)) (by omega) (by omega) rfl
        have es : Qz (l.take (k + 1))=Qz (l.take k) * 256 + ((l[k]).toNat : Int):=by rw [List.take_add_one,hx];exact Zf8 _ _
        have hs : Xk c (off : Int) (w : Int) (Qz (l.take k),k)=some (.inl (Qz (l.take (k + 1)),k + 1)):=by
          simp only [Qu,Xk,e1,e2,e3,e4,hc,hl0,hlt,hx,decide_true,cond_true,Option.bind_some,es]
          exact congrArg (fun z=>some (Sum.inl (z,k + 1))) ho8
        rw [Xi hs]
        exact ih (k + 1) (by omega)
    have:=key l.length 0 (by omega)
    simpa [Qz] using this
  simp only [Qu,Xj,e1,e2,chk,hch,and_self,if_true,hL,Option.bind_some]
theorem Zha (c : GWireCursor) (h : OkCur c) : Yh c=some (if c.bound_ - c.at_ < 3 then (0,0,.pl c.at_ Vb,c) else (Qz (cut c.b_ c.at_.toNat 1),Qz (cut c.b_ (c.at_.toNat + 1) 2),.nil,c)):=by
  have ha : Ya c.at_ (.v Vb)=some (.pl c.at_ Vb):=rfl
  by_cases hc : c.bound_ - c.at_ < 3
  · simp only [Qu,Yh,Ys c h,hc,ha,decide_true,cond_true,Option.bind_some,if_true]
  · have p1:=Zkc c 0 1 (by omega) h (by have:=h.bl;omega)
    have p2:=Zkc c 1 2 (by omega) h (by have:=h.bl;omega)
    rw [Nat.add_zero] at p1
    simp only [Qu,Yh,Ys c h,hc,decide_false,cond_false,Option.bind_some,if_false]
    rw [show Xj c 0 1=_ from p1]
    simp only [Option.bind_some]
    rw [show Xj c 1 2=_ from p2]
    rfl
theorem Znu {b : List UInt8} (hb : b.length ≤ 2) : 0 ≤ Qz b ∧ Qz b ≤ 65535:=by
  obtain⟨h1,h2⟩:=Zdf b.length b rfl
  have : (256 : Int) ^ b.length ≤ 256 ^ 2:=by
    rcases (by omega : b.length=0 ∨ b.length=1 ∨ b.length=2) with e|e|e <;> rw [e] <;> decide
  have h3 : (256 : Int) ^ 2=65536:=by decide
  omega
theorem Zi9 (b : List UInt8) (a n : Nat) : (cut b a n).length ≤ n:=by rw [cut,List.length_take];omega
def Ge (c : GWireCursor) : Int × Option GWireCursor × ErrM × GWireCursor:=
  if c.bound_ - c.at_ < 3 then (0,none,.pl c.at_ Vb,c)
  else if Qz (cut c.b_ c.at_.toNat 1)=0 then (0,none,.pl c.at_ Zoj,c)
  else if c.bound_ - c.at_ - 3 < Qz (cut c.b_ (c.at_.toNat + 1) 2) then (0,none,.pl (c.at_ + 1) Vv,c)
  else (Qz (cut c.b_ c.at_.toNat 1),some ⟨c.b_,c.at_ + 3,c.at_ + 3 + Qz (cut c.b_ (c.at_.toNat + 1) 2)⟩,.nil,⟨c.b_,c.at_ + 3 + Qz (cut c.b_ (c.at_.toNat + 1) 2),c.bound_⟩)
theorem Zqi (c : GWireCursor) (n : Int) (h : OkCur c) (h3 : 3 ≤ c.bound_ - c.at_) (n0 : 0 ≤ n) (n1 : n ≤ 65535) :
    Kv c n=some (if c.bound_ - c.at_ - 3 < n then (none,.pl (c.at_ + 1) Vv,c) else (some ⟨c.b_,c.at_ + 3,c.at_ + 3 + n⟩,.nil,⟨c.b_,c.at_ + 3 + n,c.bound_⟩)):=by
  have ok:=h
  obtain⟨k1,k2,k3,k4⟩:=h
  have w1 : IntKind.i64.wrap (c.bound_ - c.at_ - 3)=c.bound_ - c.at_ - 3:=Qb ⟨by omega,by omega⟩
  have w2 : IntKind.i64.wrap (c.at_ + 1)=c.at_ + 1:=Qb ⟨by omega,by omega⟩
  have w3 : IntKind.i64.wrap (c.at_ + 3)=c.at_ + 3:=Qb ⟨by omega,by omega⟩
  have w4 : IntKind.i64.wrap (c.at_ + 3 + n)=c.at_ + 3 + n:=Qb ⟨by omega,by omega⟩
  have ha : Ya (c.at_ + 1) (.v Vv)=some (.pl (c.at_ + 1) Vv):=rfl
  by_cases hc : c.bound_ - c.at_ - 3 < n
  · simp only [Qu,Kv,Ys c ok,w1,w2,hc,ha,decide_true,cond_true,Option.bind_some,if_true]
  · simp only [Qu,Kv,Ys c ok,w1,w3,w4,hc,decide_false,cond_false,Option.bind_some,if_false]
theorem Znv (c : GWireCursor) (h : OkCur c) : Jj c=some (Ge c):=by
  have hg : Ya c.at_ (.v Zoj)=some (.pl c.at_ Zoj):=rfl
  unfold Ge
  by_cases hc : c.bound_ - c.at_ < 3
  · have : ¬ (ErrM.pl c.at_ Vb=ErrM.nil):=fun h=>by cases h
    simp only [Qu,Jj,Zha c h,hc,if_true,Option.bind_some,this,decide_false,Bool.not_false,cond_true]
  · have hn:=Znu (Zi9 c.b_ (c.at_.toNat + 1) 2)
    have he:=Zqi c (Qz (cut c.b_ (c.at_.toNat + 1) 2)) h (by omega) hn.1 hn.2
    by_cases ht : Qz (cut c.b_ c.at_.toNat 1)=0
    · simp only [Qu,Jj,Zha c h,hc,ht,hg,if_true,if_false,Option.bind_some,decide_true,Bool.not_true,cond_true,cond_false]
    · by_cases hl : c.bound_ - c.at_ - 3 < Qz (cut c.b_ (c.at_.toNat + 1) 2)
      · have : ¬ (ErrM.pl (c.at_ + 1) Vv=ErrM.nil):=fun h=>by cases h
        rw [if_pos hl] at he
        simp only [Qu,Jj,Zha c h,hc,ht,hl,he,this,if_true,if_false,Option.bind_some,decide_true,decide_false,Bool.not_true,Bool.not_false,cond_true,cond_false]
      · rw [if_neg hl] at he
        simp only [Qu,Jj,Zha c h,hc,ht,hl,he,if_false,Option.bind_some,decide_true,decide_false,Bool.not_true,cond_false]
theorem Zkd {c : GWireCursor} (h : OkCur c) : OkCur (Ge c).2.2.2 ∧ (Ge c).2.2.2.b_=c.b_ ∧ (Ge c).2.2.2.bound_=c.bound_ ∧ (∀ d,(Ge c).2.1=some d → OkCur d ∧ d.b_=c.b_ ∧ c.at_ + 3=d.at_ ∧ d.bound_=(Ge c).2.2.2.at_) ∧ ((Ge c).2.2.1=.nil → ∃ d,(Ge c).2.1=some d):=by
  have ok:=h
  obtain⟨k1,k2,k3,k4⟩:=h
  have hn:=Znu (Zi9 c.b_ (c.at_.toNat + 1) 2)
  unfold Ge
  split
  · exact⟨ok,rfl,rfl,(fun d h=>by cases h),(fun h=>by cases h)⟩
  · split
    · exact⟨ok,rfl,rfl,(fun d h=>by cases h),(fun h=>by cases h)⟩
    · split
      · exact⟨ok,rfl,rfl,(fun d h=>by cases h),(fun h=>by cases h)⟩
      · refine⟨⟨by simp only;omega,by simp only;omega,k3,k4⟩,rfl,rfl,fun d hd=>?_,fun _=>⟨_,rfl⟩⟩
        cases hd
        exact⟨⟨by simp only;omega,by simp only;omega,by simp only;omega,k4⟩,rfl,rfl,rfl⟩
end Go.Proofs.YtfemfiiagjnhdaaGreatDoor
set_option linter.unusedVariables false
set_option linter.unusedSimpArgs false
set_option linter.unusedSectionVars false
namespace Go.Proofs.YtfemfiiagjnhdaaGreatDoor
open Go Go.RowKit
theorem Zfw {α : Type} {l : List α} {i : Nat} {x : α} (h : l[i]? = some x) : l.take (i + 1)=l.take i ++ [x]:=by rw [List.take_add_one,h];rfl
section
variable {σ ρ α : Type}
theorem Zc5 {L : σ → Option (σ ⊕ ρ)} (I : σ → Prop) (Q : ρ → Prop) (μ : σ → Nat)
    (h : ∀ s,I s → (∃ s',L s=some (.inl s') ∧ I s' ∧ μ s' < μ s) ∨ (∃ r,L s=some (.inr r) ∧ Q r)) {s : σ} (h0 : I s) : ∃ r,Vj L s=some r ∧ Q r:=by
  have key : ∀ n s,μ s < n → I s → ∃ r,Vj L s=some r ∧ Q r:=by
    intro n
    induction n with
    | zero=>intro s hs;omega
    | succ n ih=>
      intro s hs hI
      rcases h s hI with ⟨s',h1,h2,h3⟩ | ⟨r,h1,h2⟩
      · obtain⟨r,h4,h5⟩:=ih s' (by omega) h2
        exact⟨r,(Xi h1).trans h4,h5⟩
      · exact⟨r,Ka h1,h2⟩
  exact key _ s (Nat.lt_succ_self _) h0
theorem Zd4 {f : Nat → α → Option ErrM} (hf : ∀ i x,f i x ≠ some .nil) : ∀ {l : List α} {k : Nat},orN (Kf f k l)=.nil → ∀ i x,l[i]? = some x → f (k + i) x=none
  | [],_,_,i,x,hx=>by simp at hx
  | y :: r,k,h,i,x,hx=>by
    cases hy : f k y with
    | some e=>
      simp only [Kf,hy,orN,Option.getD_some] at h
      subst h;exact absurd hy (hf k y)
    | none=>
      simp only [Kf,hy] at h
      cases i with
      | zero=>
        have : y=x:=by simpa using hx
        subst this;exact hy
      | succ j=>
        have:=Zd4 hf h j x (by simpa using hx)
        rwa [show k + 1 + j=k + (j + 1) by omega] at this
end
theorem Zhb {a b : ErrM} (h : orE a b=.nil) : a=.nil ∧ b=.nil:=by
  unfold orE at h
  by_cases c : a=.nil
  · rw [if_pos c] at h;exact⟨c,h⟩
  · rw [if_neg c] at h;exact absurd h c
structure OkK (p : GPlan) : Prop where
  id0 : 0 ≤ p.Id
  id1 : p.Id ≤ 2147483647
  pg0 : 1 ≤ p.Pages.length
  pg1 : p.Pages.length ≤ 32
  pr0 : 1 ≤ p.Procs.length
  pr1 : p.Procs.length ≤ 8
  po1 : p.Ports.length ≤ 8
  ev0 : 0 ≤ p.Events
  ev1 : p.Events ≤ 8
  se1 : p.Sems.length ≤ 8
  pag : ∀ x ∈ p.Pages,0 ≤ x.Rights ∧ x.Rights ≤ 7 ∧ x.Init.size ≤ 64
  prio : ∀ x ∈ p.Procs,0 ≤ x.Prio ∧ x.Prio ≤ 255 ∧ 0 ≤ x.Entry ∧ x.Entry < 2048 ∧ x.Entry < 64 * (p.Pages.length : Int) ∧ Int.tmod x.Entry 4=0
  dep : ∀ x ∈ p.Ports,Zga x=.nil ∧ 1 ≤ x.Kind ∧ x.Kind ≤ 4 ∧ 1 ≤ x.Size ∧ x.Size ≤ 32 ∧ 1 ≤ x.Depth ∧ x.Depth ≤ 8 ∧ 0 ≤ x.Refresh ∧ x.Refresh ≤ 255
  bnd : Zel p ≤ 4096
  sem : ∀ n ∈ p.Sems,0 ≤ n ∧ n ≤ 255
theorem Zfx {p : GPlan} (h : Hu p=.nil) : OkK p:=by
  unfold Hu at h
  by_cases c0 : p.Id < 0 ∨ 2147483647 < p.Id
  · rw [if_pos c0] at h;cases h
  rw [if_neg c0] at h
  obtain⟨h1,h2⟩:=Zhb h
  obtain⟨h2,h3⟩:=Zhb h2
  unfold Zqb at h3
  obtain⟨h3,h4⟩:=Zhb h3
  obtain⟨h4,h5⟩:=Zhb h4
  unfold Zdo at h1
  by_cases c1 : p.Pages.length < 1 ∨ 32 < p.Pages.length
  · rw [if_pos c1] at h1;cases h1
  rw [if_neg c1] at h1
  have c6 : ¬ 4096 < Zel p:=fun h=>by rw [if_pos h] at h5;cases h5
  have hw : IntKind.i64.wrap (64 * (p.Pages.length : Int))=64 * (p.Pages.length : Int):=Qb ⟨by omega,by omega⟩
  unfold Zdp at h2
  by_cases c2 : p.Procs.length < 1 ∨ 8 < p.Procs.length
  · rw [if_pos c2] at h2;cases h2
  rw [if_neg c2] at h2
  unfold Zd3 at h3
  by_cases c3 : 8 < p.Ports.length
  · rw [if_pos c3] at h3;cases h3
  rw [if_neg c3] at h3
  unfold Zbu at h4
  by_cases c4 : p.Events < 0 ∨ 8 < p.Events
  · rw [if_pos c4] at h4;cases h4
  rw [if_neg c4] at h4
  by_cases c5 : 8 < p.Sems.length
  · rw [if_pos c5] at h4;cases h4
  rw [if_neg c5] at h4
  refine⟨by omega,by omega,by omega,by omega,by omega,by omega,by omega,by omega,by omega,by omega,fun x hx=>?_,fun x hx=>?_,fun x hx=>?_,by omega,fun x hx=>?_⟩
  · obtain⟨i,hi⟩:=List.mem_iff_getElem?.1 hx
    have:=Zd4 (f:=Zh2) (fun i x=>by unfold Zh2;(repeat' split) <;> intro h <;> cases h) h1 i x hi
    unfold Zh2 at this
    repeat' split at this
    all_goals first | (cases this;done) | omega
  · obtain⟨i,hi⟩:=List.mem_iff_getElem?.1 hx
    have:=Zd4 (f:=Zh3 p.Pages.length) (fun i x=>by unfold Zh3;split <;> intro h <;> cases h) h2 i x hi
    unfold Zh3 at this
    rw [hw] at this
    split at this
    · cases this
    · omega
  · obtain⟨i,hi⟩:=List.mem_iff_getElem?.1 hx
    have:=Zd4 (f:=Zbt) (fun i x=>by unfold Zbt;split <;> intro h <;> cases h) h3 i x hi
    unfold Zbt at this
    rcases Zdl x with e | ⟨g,e⟩
    · refine⟨e,?_⟩
      unfold Zga at e
      repeat' split at e
      all_goals first | (cases e;done) | omega
    · rw [e] at this;cases this
  · obtain⟨i,hi⟩:=List.mem_iff_getElem?.1 hx
    have:=Zd4 (f:=Zmt) (fun i x=>by unfold Zmt;split <;> intro h <;> cases h) h4 i x hi
    unfold Zmt at this
    split at this
    · cases this
    · omega
def Zh5 (x : GProcPlan) : GProc:=⟨Vector.replicate 16 0,IntKind.u32.wrap x.Entry,if x.Auto=true then 1 else 0,x.Prio,0,0⟩
def Zg6 : Nat → List GProcPlan → List Int
  | _,[]=>[]
  | k,x :: r=>(if x.Auto=true then [((k : Nat) : Int)] else []) ++ Zg6 (k + 1) r
theorem Zja (x : GProcPlan) : ∀ (l : List GProcPlan) (k : Nat),Zg6 k (l ++ [x])=Zg6 k l ++ (if x.Auto=true then [((k + l.length : Nat) : Int)] else [])
  | [],k=>by simp [Zg6]
  | y :: r,k=>by
    have ih:=Zja x r (k + 1)
    rw [List.cons_append,Zg6,ih,Zg6,List.append_assoc,List.length_cons,show k + 1 + r.length=k + (r.length + 1) by omega]
theorem Zlp : ∀ (l : List GProcPlan) (k : Nat),(Zg6 k l).length ≤ l.length
  | [],_=>Nat.le_refl _
  | y :: r,k=>by
    have:=Zlp r (k + 1)
    rw [Zg6,List.length_append,List.length_cons];split <;> simp <;> omega
def Zfy (x : GPagePlan) : GPage:=⟨x.Rights,false,Zrd (Vector.replicate 64 0) x.Init⟩
def Zlq (p : GPlan) : GState:=⟨p.Id,0,0,p.Procs.map Zh5,Zg6 0 p.Procs,[],List.replicate p.Events.toNat false,p.Sems,List.replicate p.Ports.length ⟨[],0⟩,p.Pages.map Zfy⟩
theorem Zop {p : GPlan} (h : Hu p=.nil) : Zbi p=some (Zlq p,.nil):=by
  have ok:=Zfx h
  have hA:=Zc5 (L:=Uv p) (fun s : Nat × List GProc × List Int=>s.1 ≤ p.Procs.length ∧ s.2.1=(p.Procs.take s.1).map Zh5 ∧ s.2.2=Zg6 0 (p.Procs.take s.1)) (fun r=>r=(p.Procs.map Zh5,Zg6 0 p.Procs)) (fun s=>p.Procs.length - s.1) (fun s hI=>by
    obtain⟨i,l1,l2⟩:=s
    obtain⟨hi,h1,h2⟩:=hI
    simp only at hi h1 h2
    by_cases hlt : i < p.Procs.length
    · have hx : p.Procs[i]? = some p.Procs[i]:=List.getElem?_eq_getElem hlt
      generalize p.Procs[i]=x at hx
      have hl1 : l1.length=i:=by rw [h1];simp;omega
      have hl2:=Zlp (p.Procs.take i) 0
      rw [← h2,List.length_take] at hl2
      have hp:=ok.pr1
      have c1 : ∀ t : GProc,(l1.length + [t].length) * 104 ≤ 140737488355328:=fun t=>by simp only [List.length_cons,List.length_nil];omega
      have c2 : (l2.length + [((i : Nat) : Int)].length) * 8 ≤ 140737488355328:=by simp only [List.length_cons,List.length_nil];omega
      have e1 : (p.Procs.take (i + 1)).map Zh5=l1 ++ [Zh5 x]:=by rw [Zfw hx,List.map_append,h1];rfl
      have e2 : Zg6 0 (p.Procs.take (i + 1))=l2 ++ (if x.Auto=true then [((i : Nat) : Int)] else []):=by rw [Zfw hx,Zja,← h2,List.length_take,Nat.min_eq_left (by omega),Nat.zero_add]
      refine .inl ⟨(i + 1,l1 ++ [Zh5 x],l2 ++ (if x.Auto=true then [((i : Nat) : Int)] else [])),?_,⟨by simp only;omega,e1.symm,e2.symm⟩,by simp only;omega⟩
      simp only [Uv,Zag,hlt,hx,decide_true,cond_true,Option.bind_some,Zh5]
      rcases Bool.eq_false_or_eq_true x.Auto with e|e
      · simp only [e,cond_true,chk,c1,c2,if_true,Option.bind_some]
      · simp only [e,cond_false,chk,c1,if_true,Option.bind_some,Bool.false_eq_true,if_false,List.append_nil]
    · refine .inr ⟨(l1,l2),?_,?_⟩
      · simp only [Uv,hlt,decide_false,cond_false]
      · have : p.Procs.take i=p.Procs:=List.take_of_length_le (by omega)
        rw [this] at h1 h2;rw [h1,h2]) (s:=(0,[],[])) ⟨Nat.zero_le _,rfl,rfl⟩
  obtain⟨_,hA,rfl⟩:=hA
  have hB:=Zc5 (L:=Uu p) (fun s : Nat × List GPage=>s.1 ≤ p.Pages.length ∧ s.2=(p.Pages.take s.1).map Zfy) (fun r=>r=p.Pages.map Zfy) (fun s=>p.Pages.length - s.1) (fun s hI=>by
    obtain⟨i,l1⟩:=s
    obtain⟨hi,h1⟩:=hI
    simp only at hi h1
    by_cases hlt : i < p.Pages.length
    · have hx : p.Pages[i]? = some p.Pages[i]:=List.getElem?_eq_getElem hlt
      generalize p.Pages[i]=x at hx
      have hl1 : l1.length=i:=by rw [h1];simp;omega
      have hp:=ok.pg1
      have c1 : ∀ t : GPage,(l1.length + [t].length) * 80 ≤ 140737488355328:=fun t=>by simp only [List.length_cons,List.length_nil];omega
      have e1 : (p.Pages.take (i + 1)).map Zfy=l1 ++ [Zfy x]:=by rw [Zfw hx,List.map_append,h1];rfl
      refine .inl ⟨(i + 1,l1 ++ [Zfy x]),?_,⟨by simp only;omega,e1.symm⟩,by simp only;omega⟩
      simp only [Uu,hlt,hx,decide_true,cond_true,Option.bind_some,chk,c1,if_true,Zfy]
    · refine .inr ⟨l1,?_,?_⟩
      · simp only [Uu,hlt,decide_false,cond_false]
      · have : p.Pages.take i=p.Pages:=List.take_of_length_le (by omega)
        rw [this] at h1;rw [h1]) (s:=(0,[])) ⟨Nat.zero_le _,rfl⟩
  obtain⟨_,hB,rfl⟩:=hB
  have c0:=ok.ev0
  have c1 : p.Events.toNat * 1 ≤ 140737488355328:=by have:=ok.ev1;omega
  have c2 : (([] : List Int).length + p.Sems.length) * 8 ≤ 140737488355328:=by have:=ok.se1;simp only [List.length_nil];omega
  have c3 : p.Ports.length * 32 ≤ 140737488355328:=by have:=ok.po1;omega
  simp only [Zbi,Zah,Gf,Zbb,h,chk,c0,c1,c2,c3,hA,hB,decide_true,Bool.not_true,cond_false,Option.bind_some,if_true,List.nil_append]
  rfl
theorem Zlr {n : Int} (a : List UInt8) (ha : a.length ≤ 900000) (h0 : 0 ≤ n) (h1 : n ≤ 255) : Xc (wr a) n=some (wr (a ++ be n 1)):=by
  have h : Qq (wr a) n 1=some (wr (a ++ be n 1)):=Zln (k:=1) Zr7 a (by omega) ha h0 h1
  simp only [Xc,h,Option.bind_some]
theorem u16_wr {n : Int} (a : List UInt8) (ha : a.length ≤ 900000) (h0 : 0 ≤ n) (h1 : n ≤ 65535) : Wn (wr a) n=some (wr (a ++ be n 2)):=by
  have h : Qq (wr a) n 2=some (wr (a ++ be n 2)):=Zln (k:=2) most2 a (by omega) ha h0 h1
  simp only [Wn,h,Option.bind_some]
theorem Zqj {n : Int} (a : List UInt8) (ha : a.length ≤ 900000) (h0 : 0 ≤ n) (h1 : n ≤ 4294967295) : Ks (wr a) n=some (wr (a ++ be n 4)):=by
  have h : Qq (wr a) n 4=some (wr (a ++ be n 4)):=Zln (k:=4) most4 a (by omega) ha h0 h1
  simp only [Ks,h,Option.bind_some]
theorem Zqk (a b : List UInt8) (ha : a.length + b.length ≤ 100000000) : Kr (wr a) b=some (wr (a ++ b)):=by
  simp only [Kr,Zns a b ha,Option.bind_some]
def Zds (b : Bool) : List UInt8:=if b=true then [Zt 1] else [Zt 0]
theorem Zql (a : List UInt8) (b : Bool) (ha : a.length ≤ 900000) : Yf (wr a) b=some (wr (a ++ Zds b)):=by
  have h : ∀ c : UInt8,Xr (wr a) [c]=some (wr (a ++ [c])):=fun c=>Zns a [c] (by simp;omega)
  cases b <;> simp [Yf,h,Zds]
theorem Zmx (a : List UInt8) (ha : a.length ≤ 900000) : Kc (wr a)=some (a,.nil,wr a):=by
  have c : (([] : List UInt8).length + a.length) * 1 ≤ 140737488355328:=by simp;omega
  simp only [Kc,Xl,chk,c,if_true,Option.bind_some,decide_true,Bool.not_true,cond_false,List.nil_append]
def Tz (t : Int) (b : List UInt8) : List UInt8:=be t 1 ++ (be (b.length : Int) 2 ++ b)
theorem Um (t : Int) (b : List UInt8) : (Tz t b).length=3 + b.length:=by simp [Tz,Xg];omega
theorem Zqm {t : Int} (a b : List UInt8) (ha : a.length ≤ 500000) (h0 : 1 ≤ t) (h1 : t ≤ 255) (hb : b.length ≤ 65535) : Yp (wr a) t b=some (wr (a ++ Tz t b)):=by
  have e1 : ¬ t < 1:=by omega
  have e2 : ¬ 255 < t:=by omega
  have e3 : ¬ 65535 < b.length:=by omega
  have n1 : Qq (wr a) t 1=some (wr (a ++ be t 1)):=Zln (k:=1) Zr7 a (by omega) (by omega) (by omega) h1
  have n2 : Qq (wr (a ++ be t 1)) (b.length : Int) 2=some (wr (a ++ be t 1 ++ be (b.length : Int) 2)):=Zln (k:=2) most2 _ (by omega) (by simp [Xg];omega) (by omega) (by omega)
  have n3:=Zns (a ++ be t 1 ++ be (b.length : Int) 2) b (by simp [Xg];omega)
  simp only [Yp,Yq,Zr7,e1,e2,e3,n1,n2,n3,decide_false,cond_false,Option.bind_some]
  simp only [Tz,List.append_assoc]
theorem Zc6 {t : Int} {f : GWireWriter → Option GWireWriter} {b : List UInt8} (hf : f (wr [])=some (wr b)) (a : List UInt8) (ha : a.length ≤ 500000) (h0 : 1 ≤ t) (h1 : t ≤ 255) (hb : b.length ≤ 65535) : Yr (wr a) t f=some (wr (a ++ Tz t b)):=by
  have e : Kj=some (wr []):=rfl
  simp only [Yr,e,hf,Zmx b (by omega),Zqm a b ha h0 h1 hb,Option.bind_some]
theorem Zhc {α : Type} {L : Nat × List UInt8 × ErrM → Option ((Nat × List UInt8 × ErrM) ⊕ (List UInt8 × ErrM))} {l : List α} {f : α → List UInt8} (B M : Nat)
    (h : ∀ i x a,i < l.length → l[i]? = some x → a.length ≤ M → L (i,a,.nil)=some (.inl (i + 1,a ++ f x,.nil))) (h2 : ∀ a,L (l.length,a,.nil)=some (.inr (a,.nil)))
    (hB : ∀ x ∈ l,(f x).length ≤ B) (a : List UInt8) (ha : a.length + l.length * B ≤ M) : Vj L (0,a,.nil)=some (a ++ l.flatMap f,.nil):=by
  have key : ∀ m k a,k + m=l.length → a.length + m * B ≤ M → Vj L (k,a,.nil)=some (a ++ (l.drop k).flatMap f,.nil):=by
    intro m
    induction m with
    | zero=>
      intro k a hk _
      obtain rfl : k=l.length:=by omega
      rw [Ka (h2 a),List.drop_length];simp
    | succ m ih=>
      intro k a hk ha
      have hlt : k < l.length:=by omega
      have hx : l[k]? = some l[k]:=List.getElem?_eq_getElem hlt
      have hd : l.drop k=l[k] :: l.drop (k + 1):=List.drop_eq_getElem_cons hlt
      have hb:=hB l[k] (List.getElem_mem hlt)
      rw [Nat.succ_mul] at ha
      rw [Xi (h k _ a hlt hx (by omega)),ih (k + 1) _ (by omega) (by rw [List.length_append];omega),hd,List.flatMap_cons,List.append_assoc]
  simpa using key l.length 0 a (by omega) ha
def Hn (x : GPagePlan) : List UInt8:=be x.Rights 1 ++ x.Init.data.toList
def Ty (x : GProcPlan) : List UInt8:=be x.Entry 4 ++ (be x.Prio 1 ++ Zds x.Auto)
def Zas (x : GPortPlan) : List UInt8:=be x.Kind 1 ++ (be x.Size 1 ++ (be x.Depth 1 ++ be x.Refresh 1))
def Zfa (x : Int) : List UInt8:=be x 1
def Kx (p : GPlan) : List UInt8:=p.Pages.flatMap (fun x=>Tz 1 (Hn x)) ++ (p.Procs.flatMap (fun x=>Tz 2 (Ty x)) ++ (p.Ports.flatMap (fun x=>Tz 3 (Zas x)) ++ (Tz 4 (be p.Events 1) ++ Tz 5 (p.Sems.flatMap Zfa))))
theorem Zfz (b : Bool) : (Zds b).length=1:=by cases b <;> rfl
theorem Zbw (x : GPagePlan) : (Hn x).length=1 + x.Init.size:=by
  have : x.Init.data.toList.length=x.Init.size:=rfl
  rw [Hn,List.length_append,Xg,this]
theorem Zbx (x : GProcPlan) : (Ty x).length=6:=by simp [Ty,Xg,Zfz]
theorem Zby (x : GPortPlan) : (Zas x).length=4:=by simp [Zas,Xg]
theorem Wg {α : Type} {f : α → List UInt8} {B : Nat} : ∀ {l : List α},(∀ x ∈ l,(f x).length ≤ B) → (l.flatMap f).length ≤ l.length * B
  | [],_=>by simp
  | x :: l,h=>by
    have h1:=h x (List.mem_cons_self ..)
    have h2:=Wg (l:=l) fun y hy=>h y (List.mem_cons_of_mem _ hy)
    rw [List.flatMap_cons,List.length_append,List.length_cons,Nat.succ_mul];omega
theorem Zsb (x : GPagePlan) (hx : 0 ≤ x.Rights ∧ x.Rights ≤ 7 ∧ x.Init.size ≤ 64) : Yk (wr []) x=some (wr (Hn x)):=by
  obtain⟨h0,h1,h2⟩:=hx
  have c : x.Init.size ≤ 9223372036854775807:=by omega
  have e : x.Init.data.toList.length=x.Init.size:=rfl
  have u:=Zlr (n:=x.Rights) [] (by simp) h0 (by omega)
  have v:=Zqk ([] ++ be x.Rights 1) x.Init.data.toList (by simp [Xg];omega)
  simp only [Yk,u,v,chk,c,if_true,Option.bind_some]
  simp only [List.nil_append,Hn]
theorem Zsc (x : GProcPlan) (hx : 0 ≤ x.Prio ∧ x.Prio ≤ 255 ∧ 0 ≤ x.Entry ∧ x.Entry < 2048) : Yl (wr []) x=some (wr (Ty x)):=by
  obtain⟨h0,h1,h2,h3⟩:=hx
  have u:=Zqj (n:=x.Entry) [] (by simp) h2 (by omega)
  have v:=Zlr (n:=x.Prio) ([] ++ be x.Entry 4) (by simp [Xg]) h0 h1
  have z:=Zql ([] ++ be x.Entry 4 ++ be x.Prio 1) x.Auto (by simp [Xg])
  simp only [Yl,u,v,z,Option.bind_some]
  simp only [List.nil_append,List.append_assoc,Ty]
theorem Zsd (x : GPortPlan) (hx : 1 ≤ x.Kind ∧ x.Kind ≤ 4 ∧ 1 ≤ x.Size ∧ x.Size ≤ 32 ∧ 1 ≤ x.Depth ∧ x.Depth ≤ 8 ∧ 0 ≤ x.Refresh ∧ x.Refresh ≤ 255) : Ym (wr []) x=some (wr (Zas x)):=by
  have u1:=Zlr (n:=x.Kind) [] (by simp) (by omega) (by omega)
  have u2:=Zlr (n:=x.Size) ([] ++ be x.Kind 1) (by simp [Xg]) (by omega) (by omega)
  have u3:=Zlr (n:=x.Depth) ([] ++ be x.Kind 1 ++ be x.Size 1) (by simp [Xg]) (by omega) (by omega)
  have u4:=Zlr (n:=x.Refresh) ([] ++ be x.Kind 1 ++ be x.Size 1 ++ be x.Depth 1) (by simp [Xg]) (by omega) (by omega)
  simp only [Ym,u1,u2,u3,u4,Option.bind_some]
  simp only [List.nil_append,List.append_assoc,Zas]
theorem Zls {p : GPlan} (ok : OkK p) : Hs p=some (wr (Kx p)):=by
  have e0 : Kj=some (wr []):=rfl
  have b1 : ∀ x ∈ p.Pages,(Tz 1 (Hn x)).length ≤ 68:=fun x hx=>by have:=ok.pag x hx;rw [Um,Zbw];omega
  have b2 : ∀ x ∈ p.Procs,(Tz 2 (Ty x)).length ≤ 9:=fun x hx=>by rw [Um,Zbx];omega
  have b3 : ∀ x ∈ p.Ports,(Tz 3 (Zas x)).length ≤ 7:=fun x hx=>by rw [Um,Zby];omega
  have b5 : ∀ x ∈ p.Sems,(Zfa x).length ≤ 1:=fun x hx=>by rw [Zfa,Xg];omega
  have l1:=Wg b1
  have l2:=Wg b2
  have l3:=Wg b3
  have l5:=Wg b5
  have k1:=ok.pg1;have k2:=ok.pr1;have k3:=ok.po1;have k5:=ok.se1
  have hA:=Zhc (L:=Yx p) (l:=p.Pages) (f:=fun x=>Tz 1 (Hn x)) 68 10000 (fun i x a hi hx ha=>by
    have hb:=ok.pag x (List.mem_of_getElem? hx)
    have hr:=Zc6 (t:=1) (f:=fun x0=>Yk x0 x) (b:=Hn x) (Zsb x hb) a (by omega) (by decide) (by decide) (by rw [Zbw];omega)
    simp only [Yx,hi,hx,hr,decide_true,cond_true,Option.bind_some]) (fun a=>by simp [Yx]) b1 [] (by simp;omega)
  rw [List.nil_append] at hA
  have hB:=Zhc (L:=Yw p) (l:=p.Procs) (f:=fun x=>Tz 2 (Ty x)) 9 10000 (fun i x a hi hx ha=>by
    have hb:=ok.prio x (List.mem_of_getElem? hx)
    have hr:=Zc6 (t:=2) (f:=fun x0=>Yl x0 x) (b:=Ty x) (Zsc x ⟨hb.1,hb.2.1,hb.2.2.1,hb.2.2.2.1⟩) a (by omega) (by decide) (by decide) (by rw [Zbx];omega)
    simp only [Yw,hi,hx,hr,decide_true,cond_true,Option.bind_some]) (fun a=>by simp [Yw]) b2 (p.Pages.flatMap (fun x=>Tz 1 (Hn x))) (by omega)
  have hC:=Zhc (L:=Yv p) (l:=p.Ports) (f:=fun x=>Tz 3 (Zas x)) 7 10000 (fun i x a hi hx ha=>by
    have hb:=ok.dep x (List.mem_of_getElem? hx)
    have hr:=Zc6 (t:=3) (f:=fun x0=>Ym x0 x) (b:=Zas x) (Zsd x hb.2) a (by omega) (by decide) (by decide) (by rw [Zby];omega)
    simp only [Yv,hi,hx,hr,decide_true,cond_true,Option.bind_some]) (fun a=>by simp [Yv]) b3 (p.Pages.flatMap (fun x=>Tz 1 (Hn x)) ++ p.Procs.flatMap (fun x=>Tz 2 (Ty x))) (by rw [List.length_append];omega)
  have hD : Yn (wr []) p=some (wr (be p.Events 1)):=by
    have u:=Zlr (n:=p.Events) [] (by simp) ok.ev0 (by have:=ok.ev1;omega)
    simp only [Yn,u,Option.bind_some,List.nil_append]
  have hE : Yo (wr []) p=some (wr (p.Sems.flatMap Zfa)):=by
    have h:=Zhc (L:=Kt p) (l:=p.Sems) (f:=Zfa) 1 10000 (fun i x a hi hx ha=>by
      have hb:=ok.sem x (List.mem_of_getElem? hx)
      have hr:=Zlr (n:=x) a (by omega) hb.1 hb.2
      simp only [Kt,hi,hx,hr,decide_true,cond_true,Option.bind_some,Zfa]) (fun a=>by simp [Kt]) b5 [] (by simp;omega)
    simp only [Yo,h,Option.bind_some,List.nil_append]
  have d1:=Zc6 (t:=4) (f:=fun x0=>Yn x0 p) (b:=be p.Events 1) hD (p.Pages.flatMap (fun x=>Tz 1 (Hn x)) ++ p.Procs.flatMap (fun x=>Tz 2 (Ty x)) ++ p.Ports.flatMap (fun x=>Tz 3 (Zas x))) (by rw [List.length_append,List.length_append];omega) (by decide) (by decide) (by rw [Xg];omega)
  have d2:=Zc6 (t:=5) (f:=fun x0=>Yo x0 p) (b:=p.Sems.flatMap Zfa) hE (p.Pages.flatMap (fun x=>Tz 1 (Hn x)) ++ p.Procs.flatMap (fun x=>Tz 2 (Ty x)) ++ p.Ports.flatMap (fun x=>Tz 3 (Zas x)) ++ Tz 4 (be p.Events 1)) (by simp only [List.length_append,Um,Xg];omega) (by decide) (by decide) (by omega)
  simp only [Hs,e0,hA,hB,hC,d1,d2,Option.bind_some]
  simp only [Kx,List.append_assoc]
theorem Zat {p : GPlan} (ok : OkK p) : (Kx p).length ≤ 4000:=by
  have b1 : ∀ x ∈ p.Pages,(Tz 1 (Hn x)).length ≤ 68:=fun x hx=>by have:=ok.pag x hx;rw [Um,Zbw];omega
  have b2 : ∀ x ∈ p.Procs,(Tz 2 (Ty x)).length ≤ 9:=fun x hx=>by rw [Um,Zbx];omega
  have b3 : ∀ x ∈ p.Ports,(Tz 3 (Zas x)).length ≤ 7:=fun x hx=>by rw [Um,Zby];omega
  have b5 : ∀ x ∈ p.Sems,(Zfa x).length ≤ 1:=fun x hx=>by rw [Zfa,Xg];omega
  have l1:=Wg b1
  have l2:=Wg b2
  have l3:=Wg b3
  have l5:=Wg b5
  have k1:=ok.pg1;have k2:=ok.pr1;have k3:=ok.po1;have k5:=ok.se1
  simp only [Kx,List.length_append,Um,Xg];omega
def Jp : List UInt8:=[Zt 70,Zt 80,Zt 76,Zt 78]
def Zf0 (p : GPlan) : List UInt8:=Jp ++ (be 1 2 ++ (be (((15 + (Kx p).length + 4 : Nat)) : Int) 4 ++ (be p.Id 4 ++ Zds p.Mobile)))
def Jx (p : GPlan) : List UInt8:=Zf0 p ++ Kx p
def Zgb (z : Int) : List UInt8:=[Zt z,Zt (shR .u32 z 8),Zt (shR .u32 z 16),Zt (shR .u32 z 24)]
def Jy (p : GPlan) : List UInt8:=Jx p ++ Zgb (Zh4 (Jx p))
theorem Gw (p : GPlan) : (Zf0 p).length=15:=by simp [Zf0,Jp,Xg,Zfz]
theorem Zse (b : List UInt8) (h : b.length ≤ 100000000) : Zcs b=some (b ++ Zgb (Zh4 b)):=by
  have c1 : (([] : List UInt8).length + b.length) * 1 ≤ 140737488355328:=by simp;omega
  have c2 : (([] ++ b).length + (Zgb (Zh4 b)).length) * 1 ≤ 140737488355328:=by simp [Zgb];omega
  have e : Za8 (Zh4 b)=some (Zgb (Zh4 b)):=rfl
  simp only [Zcs,Ua,Zkb,e,chk,c1,c2,if_true,Option.bind_some]
  rfl
theorem Zc7 {p : GPlan} (h : Hu p=.nil) : Yb p=some (Jy p,.nil):=by
  have ok:=Zfx h
  have hl:=Zat ok
  have e0 : Kj=some (wr []):=rfl
  have w1 : IntKind.i64.wrap (IntKind.i64.wrap (15 + (((Kx p).length : Nat) : Int)) + 4)=(((15 + (Kx p).length + 4 : Nat)) : Int):=by
    rw [Qb (z:=15 + (((Kx p).length : Nat) : Int)) ⟨by omega,by omega⟩,Qb ⟨by omega,by omega⟩];omega
  have a1:=Zqk [] Jp (by simp [Jp])
  have a2:=u16_wr (n:=1) ([] ++ Jp) (by simp [Jp]) (by decide) (by decide)
  have a3:=Zqj (n:=(((15 + (Kx p).length + 4 : Nat)) : Int)) ([] ++ Jp ++ be 1 2) (by simp [Jp,Xg]) (by omega) (by omega)
  have a4:=Zqj (n:=p.Id) ([] ++ Jp ++ be 1 2 ++ be (((15 + (Kx p).length + 4 : Nat)) : Int) 4) (by simp [Jp,Xg]) ok.id0 (by have:=ok.id1;omega)
  have a5:=Zql ([] ++ Jp ++ be 1 2 ++ be (((15 + (Kx p).length + 4 : Nat)) : Int) 4 ++ be p.Id 4) p.Mobile (by simp [Jp,Xg])
  have hh : [] ++ Jp ++ be 1 2 ++ be (((15 + (Kx p).length + 4 : Nat)) : Int) 4 ++ be p.Id 4 ++ Zds p.Mobile=Zf0 p:=by simp only [Zf0,List.append_assoc,List.nil_append]
  rw [hh] at a5
  have a6:=Zqk (Zf0 p) (Kx p) (by rw [Gw];omega)
  have a7:=Zmx (Zf0 p ++ Kx p) (by rw [List.length_append,Gw];omega)
  have a8:=Zse (Jx p) (by rw [Jx,List.length_append,Gw];omega)
  simp only [Jp] at a1 a2 a3 a4 a5
  simp only [Jx] at a8
  simp only [Yb,Zbb,h,Zls ok,Zmx (Kx p) (by omega),e0,w1,a1,a2,a3,a4,a5,a6,a7,a8,decide_true,Bool.not_true,cond_false,Option.bind_some,Jy,Jx]
def Gh : GPlan:=⟨3,true,[(⟨5,⟨#[97,98]⟩⟩ : GPagePlan),(⟨3,⟨#[]⟩⟩ : GPagePlan)],[(⟨0,7,true⟩ : GProcPlan),(⟨64,9,false⟩ : GProcPlan)],[(⟨1,4,1,2⟩ : GPortPlan),(⟨4,8,2,0⟩ : GPortPlan)],1,[2]⟩
theorem Zdm : Hu Gh=.nil:=by kernel_rfl
theorem Zmy : Zel Gh=363:=by kernel_rfl
theorem Zlt : (Jy Gh).length=69:=by kernel_rfl
theorem Zoq : Za6 ((Jy Gh).take 15)=⟨#[70,80,76,78,0,1,0,0,0,69,0,0,0,3,1]⟩:=by kernel_rfl
theorem Zqn : Hu ⟨3,true,Gh.Pages,Gh.Procs.set 1 ⟨66,9,false⟩,Gh.Ports,1,[2]⟩=.pl 1 Kl:=by kernel_rfl
theorem Zmz (p : GPlan) : Zan p=some (if Hu p=.nil then (Zel p,.nil) else (0,.v Hr)):=by
  by_cases h : Hu p=.nil <;> simp [Zan,Zbb,Zi8,h]
theorem Zh6 : Tq=some true:=by
  have e0 : Za0=some Gh:=rfl
  have e1:=Zmz Gh
  rw [if_pos Zdm,Zmy] at e1
  have e2:=Zop Zdm
  have e3:=Zc7 Zdm
  have e4 : Kz Gh=some .nil:=by rw [Zbb,Zdm]
  have e5 : Kz ⟨Gh.Id,Gh.Mobile,Gh.Pages,Gh.Procs.set 1 ⟨66,9,false⟩,Gh.Ports,Gh.Events,Gh.Sems⟩=some (.pl 1 Kl):=by
    rw [Zbb];exact congrArg some Zqn
  have f1 : (Zlq Gh).Procs.length=2:=by kernel_rfl
  have f2 : (Zlq Gh).Ready.length=1:=by kernel_rfl
  have f3 : (Zlq Gh).Pages.length=2:=by kernel_rfl
  have f4 : (Zlq Gh).Pages[0]? = some (Zfy ⟨5,⟨#[97,98]⟩⟩):=rfl
  have f5 : rdV (Zfy ⟨5,⟨#[97,98]⟩⟩).Data 1=some 98:=by kernel_rfl
  have f6 : Gh.Procs[1]? = some ⟨64,9,false⟩:=rfl
  have f7 : (0 : Int) ≤ (15 : Int) ∧ (15 : Int) ≤ (((Jy Gh).length : Nat) : Int):=by rw [Zlt];decide
  have f8 : Za6 ((Jy Gh).take (15 : Int).toNat)=⟨#[70,80,76,78,0,1,0,0,0,69,0,0,0,3,1]⟩:=Zoq
  have c4 : (ErrM.pl 1 Kl).code=4:=by rw [cPl,cRange]
  have f10 : (15 : Int) ≤ ((69 : Nat) : Int):=by decide
  have f11 : (0 : Int) ≤ 15:=by decide
  have f9 : (((98 : UInt8).toNat : Nat) : Int)=98:=by decide
  simp only [Tq,Hx,Hw,e0,e1,e2,e3,e4,e5,f1,f2,f3,f4,f5,f6,f10,f11,f8,f9,Zlt,c4,pPl,chk,if_true,and_self,decide_true,Bool.not_true,cond_true,cond_false,Option.bind_some]
end Go.Proofs.YtfemfiiagjnhdaaGreatDoor
set_option linter.unusedVariables false
set_option linter.unusedSimpArgs false
set_option linter.unusedSectionVars false
namespace Go.Proofs.YtfemfiiagjnhdaaGreatDoor
open Go Go.RowKit
structure Sees (c : GWireCursor) (l : List UInt8) : Prop where
  ok : OkCur c
  eq : cut c.b_ c.at_.toNat (c.bound_ - c.at_).toNat=l
theorem Sees.left {c : GWireCursor} {l : List UInt8} (h : Sees c l) : c.bound_ - c.at_=((l.length : Nat) : Int):=by
  obtain⟨⟨h1,h2,h3,h4⟩,he⟩:=h
  have:=Zbv (b:=c.b_) (a:=c.at_.toNat) (n:=(c.bound_ - c.at_).toNat) (by omega)
  rw [he] at this;omega
theorem Zke {b l r : List UInt8} {a n : Nat} (h : cut b a n=l ++ r) : cut b a l.length=l:=by
  have h1 : (cut b a n).take l.length=l:=by rw [h];simp
  have hn : l.length ≤ n:=by
    have:=congrArg List.length h
    have h2:=Zi9 b a n
    rw [List.length_append] at this;omega
  rw [cut,List.take_take,Nat.min_eq_left hn] at h1
  exact h1
theorem Zsf {b l r : List UInt8} {a n : Nat} (h : cut b a n=l ++ r) : cut b (a + l.length) (n - l.length)=r:=by
  have h1 : (cut b a n).drop l.length=r:=by rw [h];simp
  rw [cut,List.drop_take,List.drop_drop] at h1
  exact h1
theorem Sees.behind {c : GWireCursor} {l r : List UInt8} (h : Sees c (l ++ r)) : Sees ⟨c.b_,c.at_ + ((l.length : Nat) : Int),c.bound_⟩ r:=by
  have hl:=h.left
  rw [List.length_append] at hl
  obtain⟨⟨h1,h2,h3,h4⟩,he⟩:=h
  refine⟨⟨by simp only;omega,by simp only;omega,h3,h4⟩,?_⟩
  have:=Zsf he
  simp only
  rw [show (c.at_ + ((l.length : Nat) : Int)).toNat=c.at_.toNat + l.length by omega,show (c.bound_ - (c.at_ + ((l.length : Nat) : Int))).toNat=(c.bound_ - c.at_).toNat - l.length by omega]
  exact this
theorem Sees.part {c : GWireCursor} {l r : List UInt8} (h : Sees c (l ++ r)) : Sees ⟨c.b_,c.at_,c.at_ + ((l.length : Nat) : Int)⟩ l:=by
  have hl:=h.left
  rw [List.length_append] at hl
  obtain⟨⟨h1,h2,h3,h4⟩,he⟩:=h
  refine⟨⟨h1,by simp only;omega,by simp only;omega,h4⟩,?_⟩
  have:=Zke he
  simp only
  rw [show (c.at_ + ((l.length : Nat) : Int) - c.at_).toNat=l.length by omega]
  exact this
theorem Zgc : ∀ (l : List UInt8) (z : Int),l.foldl (fun n b=>n * 256 + (b.toNat : Int)) z=z * 256 ^ l.length + Qz l
  | [],z=>by simp [Qz]
  | c :: r,z=>by
    have h1:=Zgc r (z * 256 + (c.toNat : Int))
    have h2:=Zgc r (0 * 256 + (c.toNat : Int))
    have e : Qz (c :: r)=(0 * 256 + (c.toNat : Int)) * 256 ^ r.length + Qz r:=h2
    rw [List.foldl_cons,h1,e,List.length_cons,Int.pow_succ]
    generalize (256 : Int) ^ r.length=t
    rw [Int.add_mul,Int.add_mul,Int.mul_assoc,Int.mul_comm 256 t,Int.zero_mul,Int.zero_mul]
    omega
theorem Zor (c : UInt8) (r : List UInt8) : Qz (c :: r)=(c.toNat : Int) * 256 ^ r.length + Qz r:=by
  rw [Qz,List.foldl_cons,Zgc];simp
theorem Zlu (a k : Nat) (hk : k ≤ 64) : shR .i64 (a : Int) (k : Int)=((a / 2 ^ k : Nat) : Int):=by
  unfold shR
  rw [Int.toNat_natCast,show min k IntKind.i64.bits=k from Nat.min_eq_left hk,Int.fdiv_eq_ediv_of_nonneg _ (Int.le_of_lt (Int.pow_pos (by decide)))]
  simp
theorem Zlv (n : Nat) : ∀ k,k ≤ 8 → Qz (be (n : Int) k)=((n % 256 ^ k : Nat) : Int)
  | 0,_=>by simp [be,Qz,Nat.mod_one]
  | k + 1,hk=>by
    have hb:=Gk (((n / 2 ^ (8 * k) : Nat) : Int))
    have e2 : (2 : Nat) ^ (8 * k)=256 ^ k:=by rw [Nat.pow_mul]
    rw [be,Zor,Xg,Zlv n k (by omega),Zlu _ _ (by omega),hb,e2,Nat.pow_succ,Nat.mod_mul]
    have e3 : (((n / 256 ^ k : Nat) : Int)) % 256=((n / 256 ^ k % 256 : Nat) : Int):=by omega
    rw [e3,Int.natCast_add,Int.natCast_mul,Int.natCast_pow,Int.mul_comm,Int.add_comm]
    rfl
theorem Zd8 {n : Int} {k : Nat} {m : Int} (hk : k ≤ 8) (h0 : 0 ≤ n) (h1 : n ≤ m) (hm : m < 256 ^ k) : Qz (be n k)=n:=by
  obtain⟨j,rfl⟩:=Int.eq_ofNat_of_zero_le h0
  rw [Zlv j k hk,Nat.mod_eq_of_lt]
  have : (j : Int) < ((256 ^ k : Nat) : Int):=by rw [Int.natCast_pow];exact Int.lt_of_le_of_lt h1 hm
  omega
abbrev adv (c : GWireCursor) (k : Int) : GWireCursor:=⟨c.b_,c.at_ + k,c.bound_⟩
def Qy (c : GWireCursor) (k : Nat) (lo hi : Int) : Int × ErrM × GWireCursor:=
  if c.bound_ - c.at_ < (k : Int) then (0,.pl c.at_ Vb,c)
  else if Qz (cut c.b_ c.at_.toNat k) < lo ∨ hi < Qz (cut c.b_ c.at_.toNat k) then (0,.pl c.at_ Kl,c)
  else (Qz (cut c.b_ c.at_.toNat k),.nil,adv c k)
theorem Zgd (c : GWireCursor) (k : Nat) (lo hi : Int) (hk : k=1 ∨ k=2 ∨ k=4) (h : OkCur c) : Ql c (k : Int) lo hi=some (Qy c k lo hi):=by
  have e1 : Ya c.at_ (.v Vb)=some (.pl c.at_ Vb):=rfl
  have e2 : Ya c.at_ (.v Kl)=some (.pl c.at_ Kl):=rfl
  have e3 : (((!decide ((k : Int)=1)) && (!decide ((k : Int)=2))) && (!decide ((k : Int)=4)))=false:=by rcases hk with rfl | rfl | rfl <;> rfl
  unfold Qy
  by_cases h1 : c.bound_ - c.at_ < (k : Int)
  · simp only [Qu,Ql,e3,cond_false,Ys c h,Option.bind_some,h1,decide_true,cond_true,e1,if_true]
  · have hp:=Zkc c 0 k (by omega) h (by have:=h.bl;omega)
    rw [Nat.add_zero] at hp
    have hp' : Xj c 0 (k : Int)=some (Qz (cut c.b_ c.at_.toNat k),c):=hp
    have hw : IntKind.i64.wrap (c.at_ + (k : Int))=c.at_ + (k : Int):=by
      obtain⟨k1,k2,k3,k4⟩:=h
      exact Qb ⟨by omega,by omega⟩
    by_cases h2 : Qz (cut c.b_ c.at_.toNat k) < lo
    · simp only [Qu,Ql,e3,cond_false,Ys c h,Option.bind_some,h1,hp',h2,e2,decide_true,decide_false,Bool.true_or,cond_true,true_or,if_true,if_false]
    · by_cases h3 : hi < Qz (cut c.b_ c.at_.toNat k)
      · simp only [Qu,Ql,e3,cond_false,Ys c h,Option.bind_some,h1,hp',h2,h3,e2,decide_true,decide_false,Bool.or_true,cond_true,or_true,if_true,if_false]
      · simp only [Qu,Ql,e3,cond_false,Ys c h,Option.bind_some,h1,hp',h2,h3,hw,decide_false,Bool.or_false,cond_false,or_false,if_false]
theorem Zbz (c : GWireCursor) (h : OkCur c) : Xp c=some (Qy c 1 0 255):=by
  have e:=Zgd c 1 0 255 (by omega) h
  simp only [Qu,Xp,Zr7,Option.bind_some]
  rw [show Ql c 1 0 255=_ from e]
  unfold Qy;split
  · rfl
  · split <;> rfl
theorem Zge (c : GWireCursor) (h : OkCur c) : Ku c=some (Qy c 4 0 4294967295):=by
  have e:=Zgd c 4 0 4294967295 (by omega) h
  simp only [Qu,Ku,most4,Option.bind_some]
  rw [show Ql c 4 0 4294967295=_ from e]
  unfold Qy;split
  · rfl
  · split <;> rfl
def Zm0 (c : GWireCursor) : Bool × ErrM × GWireCursor:=(decide ((Qy c 1 0 1).1=1),(Qy c 1 0 1).2.1,(Qy c 1 0 1).2.2)
theorem Zhd (c : GWireCursor) (h : OkCur c) : Yg c=some (Zm0 c):=by
  have e:=Zgd c 1 0 1 (by omega) h
  simp only [Qu,Yg]
  rw [show Ql c 1 0 1=_ from e]
  unfold Zm0 Qy;split
  · rfl
  · split <;> rfl
theorem Vn {c : GWireCursor} {k : Nat} {lo hi : Int} (h : OkCur c) : OkCur (Qy c k lo hi).2.2 ∧ (Qy c k lo hi).2.2.b_=c.b_ ∧ (Qy c k lo hi).2.2.bound_=c.bound_ ∧ c.at_ ≤ (Qy c k lo hi).2.2.at_:=by
  have ok:=h
  obtain⟨k1,k2,k3,k4⟩:=h
  unfold Qy;split
  · exact⟨ok,rfl,rfl,Int.le_refl _⟩
  · split
    · exact⟨ok,rfl,rfl,Int.le_refl _⟩
    · exact⟨⟨by simp only;omega,by simp only;omega,k3,k4⟩,rfl,rfl,by simp only;omega⟩
def Zos (c : GWireCursor) (n : Nat) : List UInt8 × ErrM × GWireCursor:=
  if c.bound_ - c.at_ < (n : Int) then ([],.pl c.at_ Vb,c) else (cut c.b_ c.at_.toNat n,.nil,adv c n)
theorem Zgf (c : GWireCursor) (n : Nat) (h : OkCur c) : Xf c (n : Int)=some (Zos c n):=by
  have e1 : Ya c.at_ (.v Vb)=some (.pl c.at_ Vb):=rfl
  have e0 : ¬ (n : Int) < 0:=by omega
  unfold Zos
  by_cases h1 : c.bound_ - c.at_ < (n : Int)
  · simp only [Qu,Xf,e0,cond_false,Ys c h,Option.bind_some,h1,decide_true,decide_false,cond_true,e1,if_true]
  · have ok:=h
    obtain⟨k1,k2,k3,k4⟩:=h
    have hw : IntKind.i64.wrap (c.at_ + (n : Int))=c.at_ + (n : Int):=Qb ⟨by omega,by omega⟩
    have hc : 0 ≤ c.at_ ∧ c.at_ ≤ c.at_ + (n : Int) ∧ c.at_ + (n : Int) ≤ ((c.b_.length : Nat) : Int):=⟨k1,by omega,by omega⟩
    have hn : (c.at_ + (n : Int)).toNat - c.at_.toNat=n:=by omega
    have hl:=Zbv (b:=c.b_) (a:=c.at_.toNat) (n:=n) (by omega)
    have hcl : Xl ((c.b_.drop c.at_.toNat).take n)=some (cut c.b_ c.at_.toNat n):=by
      have c1 : (([] : List UInt8).length + ((c.b_.drop c.at_.toNat).take n).length) * 1 ≤ 140737488355328:=by
        rw [show (c.b_.drop c.at_.toNat).take n=cut c.b_ c.at_.toNat n from rfl,hl];simp only [List.length_nil];omega
      simp only [Xl,chk,c1,if_true,List.nil_append];rfl
    simp only [Qu,Xf,e0,cond_false,Ys c ok,Option.bind_some,h1,hw,hc,hn,hcl,chk,and_self,decide_false,if_true,if_false]
theorem Zuo {c : GWireCursor} {n : Nat} (h : OkCur c) : OkCur (Zos c n).2.2 ∧ (Zos c n).2.2.b_=c.b_ ∧ (Zos c n).2.2.bound_=c.bound_ ∧ c.at_ ≤ (Zos c n).2.2.at_ ∧ (Zos c n).1.length ≤ n:=by
  have ok:=h
  obtain⟨k1,k2,k3,k4⟩:=h
  unfold Zos;split
  · exact⟨ok,rfl,rfl,Int.le_refl _,Nat.zero_le _⟩
  · exact⟨⟨by simp only;omega,by simp only;omega,k3,k4⟩,rfl,rfl,by simp only;omega,Zi9 _ _ _⟩
def Zup (c : GWireCursor) : ErrM × GWireCursor:=if 0 < c.bound_ - c.at_ then (.pl c.at_ Zoi,c) else (.nil,c)
theorem Zgg (c : GWireCursor) (h : OkCur c) : Jt c=some (Zup c):=by
  have e1 : Ya c.at_ (.v Zoi)=some (.pl c.at_ Zoi):=rfl
  unfold Zup
  by_cases h1 : 0 < c.bound_ - c.at_
  · simp only [Qu,Jt,Ys c h,Option.bind_some,h1,decide_true,cond_true,e1,if_true]
  · simp only [Qu,Jt,Ys c h,Option.bind_some,h1,decide_false,cond_false,if_false]
theorem Sees.num {c : GWireCursor} {n : Int} {k : Nat} {r : List UInt8} {lo hi : Int} (h : Sees c (be n k ++ r)) (hk : k ≤ 4) (h0 : lo ≤ n) (h1 : n ≤ hi) (l0 : 0 ≤ n) (l1 : hi < 256 ^ k) : Qy c k lo hi=(n,.nil,adv c k) ∧ Sees (adv c k) r:=by
  have hl:=h.left
  rw [List.length_append,Xg] at hl
  have hb:=h.behind
  rw [Xg] at hb
  refine⟨?_,hb⟩
  have hc:=Zke h.eq
  rw [Xg] at hc
  unfold Qy
  rw [if_neg (by omega),hc,Zd8 (m:=hi) (by omega) l0 h1 l1,if_neg (by omega)]
theorem Sees.num0 {c : GWireCursor} {n : Int} {k : Nat} {lo hi : Int} (h : Sees c (be n k)) (hk : k ≤ 4) (h0 : lo ≤ n) (h1 : n ≤ hi) (l0 : 0 ≤ n) (l1 : hi < 256 ^ k) : Qy c k lo hi=(n,.nil,adv c k) ∧ Sees (adv c k) []:=
  Sees.num (r:=[]) (by rw [List.append_nil];exact h) hk h0 h1 l0 l1
theorem Znw (b : Bool) : Zds b=be (if b=true then 1 else 0) 1:=by cases b <;> rfl
theorem Sees.flag {c : GWireCursor} {b : Bool} {r : List UInt8} (h : Sees c (Zds b ++ r)) : Zm0 c=(b,.nil,adv c 1) ∧ Sees (adv c 1) r:=by
  rw [Znw] at h
  obtain⟨h1,h2⟩:=h.num (lo:=0) (hi:=1) (by omega) (by split <;> omega) (by split <;> omega) (by split <;> omega) (by decide)
  refine⟨?_,h2⟩
  unfold Zm0
  rw [h1]
  cases b <;> rfl
theorem Sees.raw {c : GWireCursor} {l : List UInt8} (h : Sees c l) : Zos c (c.bound_ - c.at_).toNat=(l,.nil,adv c l.length) ∧ Sees (adv c l.length) []:=by
  have hl:=h.left
  have hb:=Sees.behind (l:=l) (r:=[]) (by rw [List.append_nil];exact h)
  refine⟨?_,hb⟩
  unfold Zos
  rw [if_neg (by omega),h.eq,hl,Int.toNat_natCast]
theorem Sees.ended {c : GWireCursor} (h : Sees c []) : Zup c=(.nil,c):=by
  have hl:=h.left
  unfold Zup
  rw [if_neg (by rw [hl];simp)]
theorem Sees.next {c : GWireCursor} {t : Int} {b r : List UInt8} (h : Sees c (Tz t b ++ r)) (h0 : 1 ≤ t) (h1 : t ≤ 255) (hb : b.length ≤ 65535) :
    ∃ d,Ge c=(t,some d,.nil,adv c (3 + (b.length : Int))) ∧ Sees d b ∧ d.b_=c.b_ ∧ Sees (adv c (3 + (b.length : Int))) r:=by
  have hl:=h.left
  rw [List.length_append,Um] at hl
  have e : Tz t b ++ r=be t 1 ++ (be (b.length : Int) 2 ++ (b ++ r)):=by simp only [Tz,List.append_assoc]
  rw [e] at h
  have c1:=Zke h.eq
  rw [Xg] at c1
  have k1:=h.behind
  rw [Xg] at k1
  have c2:=Zke k1.eq
  rw [Xg] at c2
  have k2:=k1.behind
  rw [Xg] at k2
  have k3:=k2.part
  have k4:=k2.behind
  have ha:=h.ok.a0
  have n1 : Qz (cut c.b_ c.at_.toNat 1)=t:=by rw [c1];exact Zd8 (m:=255) (by omega) (by omega) h1 (by decide)
  have n2 : Qz (cut c.b_ (c.at_.toNat + 1) 2)=(b.length : Int):=by
    have : (c.at_ + ((1 : Nat) : Int)).toNat=c.at_.toNat + 1:=by omega
    simp only [this] at c2
    rw [c2];exact Zd8 (m:=65535) (by omega) (by omega) (by omega) (by decide)
  refine⟨⟨c.b_,c.at_ + 3,c.at_ + 3 + (b.length : Int)⟩,?_,?_,rfl,?_⟩
  · unfold Ge
    rw [if_neg (by omega),n1,n2,if_neg (by omega),if_neg (by omega)]
    simp only [adv,Int.add_assoc]
  · have : c.at_ + ((1 : Nat) : Int) + ((2 : Nat) : Int)=c.at_ + 3:=by omega
    simpa only [this] using k3
  · have : c.at_ + ((1 : Nat) : Int) + ((2 : Nat) : Int) + (b.length : Int)=c.at_ + (3 + (b.length : Int)):=by omega
    simpa only [this] using k4
end Go.Proofs.YtfemfiiagjnhdaaGreatDoor
set_option linter.unusedVariables false
set_option linter.unusedSimpArgs false
set_option linter.unusedSectionVars false
namespace Go.Proofs.YtfemfiiagjnhdaaGreatDoor
open Go Go.RowKit
theorem Zm1 {p q : Prop} [Decidable p] [Decidable q] (h : p ↔ q) : decide p=decide q:=by
  by_cases hp : p
  · rw [decide_eq_true hp,decide_eq_true (h.1 hp)]
  · rw [decide_eq_false hp,decide_eq_false fun hq=>hp (h.2 hq)]
section
variable {α : Type}
theorem Zh7 (q : α → Bool) : ∀ (l : List α) (k : Nat),Kf (fun _ x=>if q x=true then none else some false) k l=if l.all q=true then none else some false
  | [],_=>rfl
  | x :: r,k=>by
    have ih:=Zh7 q r (k + 1)
    rcases Bool.eq_false_or_eq_true (q x) with h|h <;> simp [Kf,h,ih]
theorem Zqo {L : Nat → Option (Nat ⊕ (Unit ⊕ Bool))} {a b : List α} (q : α → α → Bool) (hl : a.length=b.length)
    (h : ∀ i x y,i < a.length → a[i]? = some x → b[i]? = some y → L i=some (if q x y=true then .inl (i + 1) else .inr (.inr false))) (h2 : L a.length=some (.inr (.inl ()))) :
    Vj L 0=some (if (a.zip b).all (fun p=>q p.1 p.2)=true then .inl () else .inr false):=by
  have hz : (a.zip b).length=a.length:=by rw [List.length_zip,← hl,Nat.min_self]
  have hL:=Gv (L:=L) (l:=a.zip b) (f:=fun _ p=>if q p.1 p.2=true then none else some false) (fun i p hi hp=>by
    obtain⟨h3,h4⟩:=List.getElem?_zip_eq_some.1 hp
    rw [h i p.1 p.2 (by omega) h3 h4,Zka,Zdk,Za3]) (by rw [hz];exact h2)
  rw [hL,Zh7 (fun p : α × α=>q p.1 p.2)]
  split <;> rfl
theorem Zh8 [DecidableEq α] : ∀ {a b : List α},a.length=b.length → (((a.zip b).all fun p=>decide (p.1=p.2))=true ↔ a=b)
  | [],[],_=>by simp
  | [],y :: b,h=>by simp at h
  | x :: a,[],h=>by simp at h
  | x :: a,y :: b,h=>by
    have ih:=Zh8 (a:=a) (b:=b) (by simpa using h)
    simp only [List.zip_cons_cons,List.all_cons,Bool.and_eq_true,decide_eq_true_eq,List.cons.injEq,ih]
theorem Zf1 {L : Nat → Option (Nat ⊕ (Unit ⊕ Bool))} {a b : List α} [DecidableEq α] (hl : a.length=b.length)
    (h : ∀ i x y,i < a.length → a[i]? = some x → b[i]? = some y → L i=some (if decide (x=y)=true then .inl (i + 1) else .inr (.inr false))) (h2 : L a.length=some (.inr (.inl ()))) :
    Vj L 0=some (if a=b then .inl () else .inr false):=by
  rw [Zqo (fun x y=>decide (x=y)) hl h h2]
  congr 1
  by_cases e : a=b
  · rw [if_pos e,if_pos ((Zh8 hl).2 e)]
  · rw [if_neg e,if_neg (fun h=>e ((Zh8 hl).1 h))]
end
theorem Zh9 {α : Type} {a b : List α} (h : ¬ a.length=b.length) : ¬ a=b:=fun e=>h (by rw [e])
abbrev Zlw : Nat:=140737488355328
def Zkf (p : GPlan) : Prop:=p.Pages.length * 24 ≤ Zlw ∧ p.Procs.length * 24 ≤ Zlw ∧ p.Ports.length * 32 ≤ Zlw ∧ p.Sems.length * 8 ≤ Zlw
theorem Zlx (p : GPlan) (h : Zkf p) : Zba p=some p:=by
  obtain⟨h1,h2,h3,h4⟩:=h
  simp only [Zlw] at *
  simp only [Zba,List.nil_append,List.length_nil,Nat.zero_add,chk,h1,h2,h3,h4,if_true]
theorem Zqp (a b : GPlan) : a=b ↔ a.Id=b.Id ∧ a.Mobile=b.Mobile ∧ a.Pages=b.Pages ∧ a.Procs=b.Procs ∧ a.Ports=b.Ports ∧ a.Events=b.Events ∧ a.Sems=b.Sems:=by
  cases a;cases b;simp
theorem Zqq (a b : GPlan) : Hh a b=some (decide (a=b)):=by
  rw [Zm1 (Zqp a b)]
  by_cases l4 : a.Pages.length=b.Pages.length
  · by_cases l3 : a.Procs.length=b.Procs.length
    · by_cases l2 : a.Ports.length=b.Ports.length
      · by_cases l1 : a.Sems.length=b.Sems.length
        · have h4:=Zf1 (L:=Hg a b) l4 (fun i x y hi hx hy=>by
            simp only [Hg,hi,hx,hy,decide_true,cond_true,Option.bind_some]
            by_cases e : x=y <;> simp [e]) (by simp [Hg])
          have h3:=Zf1 (L:=Hf a b) l3 (fun i x y hi hx hy=>by
            simp only [Hf,hi,hx,hy,decide_true,cond_true,Option.bind_some]
            by_cases e : x=y <;> simp [e]) (by simp [Hf])
          have h2:=Zf1 (L:=He a b) l2 (fun i x y hi hx hy=>by
            simp only [He,hi,hx,hy,decide_true,cond_true,Option.bind_some]
            by_cases e : x=y <;> simp [e]) (by simp [He])
          have h1:=Zf1 (L:=Hd a b) l1 (fun i x y hi hx hy=>by
            simp only [Hd,hi,hx,hy,decide_true,cond_true,Option.bind_some]
            by_cases e : x=y <;> simp [e]) (by simp [Hd])
          simp only [Hh,l1,l2,l3,l4,h1,h2,h3,h4,Option.bind_some,decide_true,Bool.not_true,Bool.or_false,Bool.cond_eq_ite]
          by_cases e1 : a.Id=b.Id <;> by_cases e2 : a.Mobile=b.Mobile <;> by_cases e3 : a.Events=b.Events <;> simp [e1,e2,e3]
          by_cases e4 : a.Pages=b.Pages
          · by_cases e5 : a.Procs=b.Procs
            · by_cases e6 : a.Ports=b.Ports
              · by_cases e7 : a.Sems=b.Sems <;> simp [e4,e5,e6,e7]
              · simp [e4,e5,e6]
            · simp [e4,e5]
          · simp [e4]
        · simp [Hh,l1,Zh9 l1]
      · simp [Hh,l2,Zh9 l2]
    · simp [Hh,l3,Zh9 l3]
  · simp [Hh,l4,Zh9 l4]
end Go.Proofs.YtfemfiiagjnhdaaGreatDoor
set_option linter.unusedVariables false
set_option linter.unusedSimpArgs false
set_option linter.unusedSectionVars false
namespace Go.Proofs.YtfemfiiagjnhdaaGreatDoor
open Go Go.RowKit
def Zsg : Nat:=3988292384
def stepN (x : Nat) : Nat:=if x % 2=1 then (x / 2) ^^^ Zsg else x / 2
def itN : Nat → Nat → Nat
  | 0,x=>x
  | k + 1,x=>itN k (stepN x)
theorem Zsh (a b : Nat) : (a ^^^ b) / 2=(a / 2) ^^^ (b / 2):=by
  apply Nat.eq_of_testBit_eq
  intro i
  rw [Nat.testBit_xor,Nat.testBit_div_two,Nat.testBit_div_two,Nat.testBit_div_two,Nat.testBit_xor]
theorem Zuq (a b : Nat) : (a ^^^ b) % 2=(a + b) % 2:=by
  have h0:=Nat.testBit_xor a b 0
  rw [Nat.testBit_zero,Nat.testBit_zero,Nat.testBit_zero] at h0
  have hm : (a + b) % 2=(a % 2 + b % 2) % 2:=Nat.add_mod a b 2
  have hz:=Nat.mod_two_eq_zero_or_one (a ^^^ b)
  generalize (a ^^^ b) % 2=z at *
  rcases Nat.mod_two_eq_zero_or_one a with ha|ha <;> rcases Nat.mod_two_eq_zero_or_one b with hb|hb <;> rw [ha,hb] at h0 hm <;> rw [hm] <;> rcases hz with rfl|rfl <;> simp at h0 ⊢
theorem Zqr (a b : Nat) : stepN (a ^^^ b)=stepN a ^^^ stepN b:=by
  unfold stepN
  rw [Zsh,Zuq]
  rcases Nat.mod_two_eq_zero_or_one a with ha|ha <;> rcases Nat.mod_two_eq_zero_or_one b with hb|hb
  · rw [if_neg (by omega),if_neg (by omega),if_neg (by omega)]
  · rw [if_pos (by omega),if_neg (by omega),if_pos (by omega),Nat.xor_assoc]
  · rw [if_pos (by omega),if_pos (by omega),if_neg (by omega),Nat.xor_assoc,Nat.xor_assoc,Nat.xor_comm Zsg]
  · rw [if_neg (by omega),if_pos (by omega),if_pos (by omega),Nat.xor_assoc,← Nat.xor_assoc Zsg,Nat.xor_comm Zsg (b / 2),Nat.xor_assoc (b / 2),Nat.xor_self,Nat.xor_zero]
theorem Zqs : ∀ (k a b : Nat),itN k (a ^^^ b)=itN k a ^^^ itN k b
  | 0,_,_=>rfl
  | k + 1,a,b=>by rw [itN,Zqr,Zqs k];rfl
theorem Zqt : ∀ (k x : Nat),itN k (2 ^ k * x)=x
  | 0,x=>by rw [Nat.pow_zero,Nat.one_mul];rfl
  | k + 1,x=>by
    have e : 2 ^ (k + 1) * x=2 * (2 ^ k * x):=by rw [Nat.pow_succ];rw [Nat.mul_comm (2 ^ k) 2,Nat.mul_assoc]
    have h : stepN (2 ^ (k + 1) * x)=2 ^ k * x:=by
      unfold stepN
      rw [if_neg (by rw [e];omega),e,Nat.mul_div_cancel_left _ (by decide)]
    rw [itN,h,Zqt k x]
theorem Za4 {x : Nat} (h : x < 4294967296) : stepN x < 4294967296:=by
  unfold stepN
  split
  · exact Nat.xor_lt_two_pow (n:=32) (by omega) (by decide)
  · omega
theorem Zqu : ∀ (k : Nat) {x : Nat},x < 4294967296 → itN k x < 4294967296
  | 0,_,h=>h
  | k + 1,_,h=>Zqu k (Za4 h)
def moveN (z : Nat) (c : UInt8) : Nat:=itN 8 (z ^^^ c.toNat)
theorem Znx {z : Nat} (c : UInt8) (h : z < 4294967296) : moveN z c < 4294967296:=Zqu 8 (Nat.xor_lt_two_pow (n:=32) h (by have:=c.toNat_lt;omega))
theorem Zhe {x : Nat} (h : x < 4294967296) : IntKind.u32.wrap (x : Int)=(x : Int):=by
  have : IntKind.u32.wrap (x : Int)=(x : Int) % 4294967296:=by simp [IntKind.wrap,IntKind.signed,IntKind.bits]
  rw [this];omega
theorem Zny (x : Nat) : IntKind.u8.wrap (x : Int)=((x % 256 : Nat) : Int):=by
  have : IntKind.u8.wrap (x : Int)=(x : Int) % 256:=by simp [IntKind.wrap,IntKind.signed,IntKind.bits]
  rw [this];omega
theorem Zc8 {a b : Nat} (ha : a < 4294967296) (hb : b < 4294967296) : Uo .u32 (a : Int) (b : Int)=((a ^^^ b : Nat) : Int):=by
  have h : (BitVec.ofInt IntKind.u32.bits (a : Int) ^^^ BitVec.ofInt IntKind.u32.bits (b : Int)).toNat=a ^^^ b:=by
    rw [show IntKind.u32.bits=32 from rfl,BitVec.toNat_xor,BitVec.ofInt_natCast,BitVec.ofInt_natCast,BitVec.toNat_ofNat,BitVec.toNat_ofNat,Nat.mod_eq_of_lt (by omega),Nat.mod_eq_of_lt (by omega)]
  unfold Uo
  rw [h]
  exact Zhe (Nat.xor_lt_two_pow (n:=32) ha hb)
theorem Zm2 {a b : Nat} (ha : a < 256) (hb : b < 256) : Uo .u8 (a : Int) (b : Int)=((a ^^^ b : Nat) : Int):=by
  have h : (BitVec.ofInt IntKind.u8.bits (a : Int) ^^^ BitVec.ofInt IntKind.u8.bits (b : Int)).toNat=a ^^^ b:=by
    rw [show IntKind.u8.bits=8 from rfl,BitVec.toNat_xor,BitVec.ofInt_natCast,BitVec.ofInt_natCast,BitVec.toNat_ofNat,BitVec.toNat_ofNat,Nat.mod_eq_of_lt (by omega),Nat.mod_eq_of_lt (by omega)]
  unfold Uo
  rw [h,Zny,Nat.mod_eq_of_lt (Nat.xor_lt_two_pow (n:=8) ha hb)]
theorem Zm3 {a : Nat} (ha : a < 4294967296) : Zho .u32 (a : Int) 1=((a % 2 : Nat) : Int):=by
  have h : (BitVec.ofInt IntKind.u32.bits (a : Int) &&& BitVec.ofInt IntKind.u32.bits 1).toNat=a % 2:=by
    rw [show IntKind.u32.bits=32 from rfl,BitVec.toNat_and,BitVec.ofInt_natCast,show (1 : Int)=((1 : Nat) : Int) from rfl,BitVec.ofInt_natCast,BitVec.toNat_ofNat,BitVec.toNat_ofNat,Nat.mod_eq_of_lt (by omega),show 1 % 2 ^ 32=1 from by decide,Nat.and_one_is_mod]
  unfold Zho
  rw [h]
  exact Zhe (by omega)
theorem Zqv (a k : Nat) (hk : k ≤ 32) : shR .u32 (a : Int) (k : Int)=((a / 2 ^ k : Nat) : Int):=by
  unfold shR
  rw [Int.toNat_natCast,show min k IntKind.u32.bits=k from Nat.min_eq_left hk,Int.fdiv_eq_ediv_of_nonneg _ (Int.le_of_lt (Int.pow_pos (by decide)))]
  simp
theorem Tx {x : Nat} (h : x < 4294967296) : Zfv (x : Int)=(stepN x : Int):=by
  unfold Zfv stepN
  have h1:=Zqv x 1 (by decide)
  rw [Zm3 h,show (1 : Int)=((1 : Nat) : Int) from rfl,h1,Nat.pow_one]
  by_cases e : x % 2=1
  · rw [if_pos (by omega),if_pos e]
    exact Zc8 (by omega) (by decide)
  · rw [if_neg (by omega),if_neg e]
theorem Zsi {x : Nat} (h : x < 4294967296) : Zr9 (x : Int)=(itN 8 x : Int):=by
  unfold Zr9
  have l1:=Za4 h
  have l2:=Za4 l1
  have l3:=Za4 l2
  have l4:=Za4 l3
  have l5:=Za4 l4
  have l6:=Za4 l5
  have l7:=Za4 l6
  rw [Tx h,Tx l1,Tx l2,Tx l3,Tx l4,Tx l5,Tx l6,Tx l7]
  rfl
theorem split8 (z : Nat) : z=(z % 256) ^^^ (2 ^ 8 * (z / 256)):=by
  apply Nat.eq_of_testBit_eq
  intro i
  rw [Nat.testBit_xor,show (256 : Nat)=2 ^ 8 from rfl,Nat.testBit_mod_two_pow,Nat.testBit_two_pow_mul,Nat.testBit_div_two_pow]
  by_cases h : i < 8
  · simp [h,show ¬ 8 ≤ i by omega]
  · simp [h,show 8 ≤ i by omega,show i - 8 + 8=i by omega]
theorem Zqw {z : Nat} (c : UInt8) (h : z < 4294967296) : Zmw (z : Int) c=(moveN z c : Int):=by
  have hc:=c.toNat_lt
  have hx : (z % 256) ^^^ c.toNat < 256:=Nat.xor_lt_two_pow (n:=8) (by omega) (by omega)
  have hs : shR .u32 (z : Int) 8=((z / 256 : Nat) : Int):=Zqv z 8 (by decide)
  unfold Zmw
  rw [Zny,Zm2 (by omega) (by omega),Zhe (by omega),Zsi (by omega),hs,Zc8 (Zqu 8 (by omega)) (by omega)]
  congr 1
  unfold moveN
  conv=>rhs;rw [split8 z,Nat.xor_assoc,Nat.xor_comm _ c.toNat,← Nat.xor_assoc,Zqs,Zqt]
theorem Zkg : ∀ (l : List UInt8) {z : Nat},z < 4294967296 → l.foldl Zmw (z : Int)=((l.foldl moveN z : Nat) : Int) ∧ l.foldl moveN z < 4294967296
  | [],_,h=>⟨rfl,h⟩
  | c :: r,z,h=>by
    rw [List.foldl_cons,List.foldl_cons,Zqw c h]
    exact Zkg r (Znx c h)
def regN (b : List UInt8) : Nat:=b.foldl moveN 4294967295
theorem Zqx (b : List UInt8) : regN b < 4294967296:=(Zkg b (by decide)).2
theorem Zsj {r : Nat} (h : r < 4294967296) : Zrc .u32 (r : Int)=((4294967295 ^^^ r : Nat) : Int):=by
  have e : Zrc .u32 (r : Int)=Uo .u32 ((4294967295 : Nat) : Int) (r : Int):=rfl
  rw [e]
  exact Zc8 (by decide) h
def sumN (b : List UInt8) : Nat:=4294967295 ^^^ regN b
theorem Zsk (b : List UInt8) : Zh4 b=((sumN b : Nat) : Int):=by
  unfold Zh4
  have h0 : Zrc .u32 0=((4294967295 : Nat) : Int):=by decide
  obtain⟨h1,h2⟩:=Zkg b (z:=4294967295) (by decide)
  rw [h0,h1]
  exact Zsj (Zqx b)
def Zm4 (z : Int) : List UInt8:=[Zt z,Zt (shR .u32 z 8),Zt (shR .u32 z 16),Zt (shR .u32 z 24)]
def Zgh (s : List UInt8) : Prop:=4 ≤ s.length ∧ s.drop (s.length - 4)=Zm4 (Zh4 (s.take (s.length - 4)))
theorem Zjb (b : List UInt8) : Zgh (b ++ Zm4 (Zh4 b)):=by
  have h4 : (Zm4 (Zh4 b)).length=4:=rfl
  have hl : (b ++ Zm4 (Zh4 b)).length - 4=b.length:=by rw [List.length_append,h4];omega
  refine⟨by rw [List.length_append,h4];omega,?_⟩
  rw [hl,List.drop_left,List.take_left]
end Go.Proofs.YtfemfiiagjnhdaaGreatDoor
set_option linter.unusedVariables false
set_option linter.unusedSimpArgs false
set_option linter.unusedSectionVars false
namespace Go.Proofs.YtfemfiiagjnhdaaGreatDoor
open Go Go.RowKit
def lens (p : GPlan) : Nat:=p.Pages.length + p.Procs.length + p.Ports.length + p.Sems.length
theorem tot3 {α β γ : Type} {o : Option (α × β × γ)} (h : o.isSome=true) : ∃ x e d,o=some (x,e,d):=by
  obtain⟨r,hr⟩:=Option.isSome_iff_exists.1 h
  exact⟨r.1,r.2.1,r.2.2,hr⟩
theorem Zsl {c : GWireCursor} (h : OkCur c) : ∃ x e d,Gm c=some (x,e,d):=by
  have r1:=Vn (k:=1) (lo:=0) (hi:=255) h
  by_cases e1 : (Qy c 1 0 255).2.1=.nil
  · have hl:=Ys _ r1.1
    have hn : (((Qy c 1 0 255).2.2.bound_ - (Qy c 1 0 255).2.2.at_).toNat : Int)=(Qy c 1 0 255).2.2.bound_ - (Qy c 1 0 255).2.2.at_:=Int.toNat_of_nonneg (by have:=r1.1.ab;omega)
    have hr:=Zgf _ ((Qy c 1 0 255).2.2.bound_ - (Qy c 1 0 255).2.2.at_).toNat r1.1
    rw [hn] at hr
    have e2 : (⟨c.b_,(Qy c 1 0 255).2.2.at_,(Qy c 1 0 255).2.2.bound_⟩ : GWireCursor)=(Qy c 1 0 255).2.2:=by rw [← r1.2.1]
    refine tot3 ?_
    simp only [Qu,Gm,Zbz c h,e1,e2,hl,hr,Option.bind_some,decide_true,Bool.not_true,cond_false,Option.isSome_some]
  · refine tot3 ?_
    simp only [Qu,Gm,Zbz c h,e1,Option.bind_some,decide_false,Bool.not_false,cond_true,Option.isSome_some]
theorem Hi {c : GWireCursor} {k : Nat} {lo hi : Int} (h : OkCur c) : (⟨c.b_,(Qy c k lo hi).2.2.at_,(Qy c k lo hi).2.2.bound_⟩ : GWireCursor)=(Qy c k lo hi).2.2:=by
  rw [← (Vn h).2.1]
theorem Zsm {c : GWireCursor} (h : OkCur c) : ∃ x e d,Hy c=some (x,e,d):=by
  have r1:=Vn (k:=4) (lo:=0) (hi:=4294967295) h
  have x1:=Hi (k:=4) (lo:=0) (hi:=4294967295) h
  generalize hc1 : Qy c 4 0 4294967295=q1 at r1 x1
  have r2:=Vn (k:=1) (lo:=0) (hi:=255) r1.1
  have x2:=Hi (k:=1) (lo:=0) (hi:=255) r1.1
  have u2:=Zbz _ r1.1
  generalize hc2 : Qy q1.2.2 1 0 255=q2 at r2 x2 u2
  have r3:=Vn (k:=1) (lo:=0) (hi:=1) r2.1
  have x3:=Hi (k:=1) (lo:=0) (hi:=1) r2.1
  have u3:=Zhd _ r2.1
  unfold Zm0 at u3
  generalize hc3 : Qy q2.2.2 1 0 1=q3 at r3 x3 u3
  have u4:=Zgg _ r3.1
  rw [r1.2.1] at x2
  rw [r2.2.1,r1.2.1] at x3
  refine tot3 ?_
  simp only [Qu,Hy,Zge c h,hc1,x1,u2,x2,u3,x3,u4,Option.bind_some,Option.isSome_some]
theorem Zsn {c : GWireCursor} (h : OkCur c) : ∃ x e d,Ub c=some (x,e,d):=by
  have r1:=Vn (k:=1) (lo:=0) (hi:=255) h
  have x1:=Hi (k:=1) (lo:=0) (hi:=255) h
  generalize hc1 : Qy c 1 0 255=q1 at r1 x1
  have r2:=Vn (k:=1) (lo:=0) (hi:=255) r1.1
  have x2:=Hi (k:=1) (lo:=0) (hi:=255) r1.1
  have u2:=Zbz _ r1.1
  generalize hc2 : Qy q1.2.2 1 0 255=q2 at r2 x2 u2
  have r3:=Vn (k:=1) (lo:=0) (hi:=255) r2.1
  have x3:=Hi (k:=1) (lo:=0) (hi:=255) r2.1
  have u3:=Zbz _ r2.1
  generalize hc3 : Qy q2.2.2 1 0 255=q3 at r3 x3 u3
  have r4:=Vn (k:=1) (lo:=0) (hi:=255) r3.1
  have x4:=Hi (k:=1) (lo:=0) (hi:=255) r3.1
  have u4:=Zbz _ r3.1
  generalize hc4 : Qy q3.2.2 1 0 255=q4 at r4 x4 u4
  have u5:=Zgg _ r4.1
  rw [r1.2.1] at x2
  rw [r2.2.1,r1.2.1] at x3
  rw [r3.2.1,r2.2.1,r1.2.1] at x4
  refine tot3 ?_
  simp only [Qu,Ub,Zbz c h,hc1,x1,u2,x2,u3,x3,u4,x4,u5,Option.bind_some,Option.isSome_some]
theorem Zly (q : List UInt8 × ErrM × GWireCursor) (l : List Int) (hb : l.length + q.1.length ≤ 17179869184) : Vj (Uc q) (0,l)=some (l ++ q.1.map fun b=>(b.toNat : Int)):=by
  have key : ∀ m k l,k + m=q.1.length → l.length + m ≤ 17179869184 → Vj (Uc q) (k,l)=some (l ++ (q.1.drop k).map fun b=>(b.toNat : Int)):=by
    intro m
    induction m with
    | zero=>
      intro k l hk _
      rw [List.drop_eq_nil_of_le (by omega),List.map_nil,List.append_nil]
      exact Ka (by simp only [Uc,show ¬ k < q.1.length by omega,decide_false,cond_false])
    | succ m ih=>
      intro k l hk hl
      have hlt : k < q.1.length:=by omega
      have hx : q.1[k]? = some q.1[k]:=List.getElem?_eq_getElem hlt
      have hd : q.1.drop k=q.1[k] :: q.1.drop (k + 1):=List.drop_eq_getElem_cons hlt
      have c1 : (l.length + [((q.1[k]).toNat : Int)].length) * 8 ≤ 140737488355328:=by simp only [List.length_cons,List.length_nil];omega
      rw [Xi (s':=(k + 1,l ++ [((q.1[k]).toNat : Int)])) (by simp only [Uc,hlt,hx,chk,c1,decide_true,cond_true,Option.bind_some,if_true]),ih (k + 1) _ (by omega) (by rw [List.length_append];simp only [List.length_cons,List.length_nil];omega),hd,List.map_cons,List.append_assoc]
      rfl
  exact key q.1.length 0 l (by omega) hb
theorem Zur {p : GPlan} {t : Int} {c : GWireCursor} (h : OkCur c) (hl : lens p ≤ 8589934592) (hb : c.bound_ - c.at_ ≤ 70000) : ∃ e p' d,Ju p t c=some (e,p',d) ∧ (lens p' : Int) ≤ lens p + 1 + (c.bound_ - c.at_):=by
  have hk:=h.ab
  unfold lens at hl
  by_cases t1 : t=1
  · subst t1
    have t1 : (1 : Int)=1:=rfl
    obtain⟨x,e,d,hp⟩:=Zsl h
    have c1 : (p.Pages.length + [x].length) * 24 ≤ 140737488355328:=by simp only [List.length_cons,List.length_nil];omega
    refine⟨e,⟨p.Id,p.Mobile,p.Pages ++ [x],p.Procs,p.Ports,p.Events,p.Sems⟩,⟨c.b_,d.at_,d.bound_⟩,by simp only [Qu,Ju,t1,hp,chk,c1,decide_true,cond_true,Option.bind_some,if_true],?_⟩
    simp only [lens,List.length_append,List.length_cons,List.length_nil];omega
  by_cases t2 : t=2
  · obtain⟨x,e,d,hp⟩:=Zsm h
    have c1 : (p.Procs.length + [x].length) * 24 ≤ 140737488355328:=by simp only [List.length_cons,List.length_nil];omega
    refine⟨e,⟨p.Id,p.Mobile,p.Pages,p.Procs ++ [x],p.Ports,p.Events,p.Sems⟩,⟨c.b_,d.at_,d.bound_⟩,by simp only [Qu,Ju,t1,t2,hp,chk,c1,show ¬ (2 : Int)=1 by decide,decide_true,decide_false,cond_true,cond_false,Option.bind_some,if_true],?_⟩
    simp only [lens,List.length_append,List.length_cons,List.length_nil];omega
  by_cases t3 : t=3
  · obtain⟨x,e,d,hp⟩:=Zsn h
    have c1 : (p.Ports.length + [x].length) * 32 ≤ 140737488355328:=by simp only [List.length_cons,List.length_nil];omega
    refine⟨e,⟨p.Id,p.Mobile,p.Pages,p.Procs,p.Ports ++ [x],p.Events,p.Sems⟩,⟨c.b_,d.at_,d.bound_⟩,by simp only [Qu,Ju,t1,t2,t3,hp,chk,c1,show ¬ (3 : Int)=1 by decide,show ¬ (3 : Int)=2 by decide,decide_true,decide_false,cond_true,cond_false,Option.bind_some,if_true],?_⟩
    simp only [lens,List.length_append,List.length_cons,List.length_nil];omega
  by_cases t4 : t=4
  · have r1:=Vn (k:=1) (lo:=0) (hi:=255) h
    have x1:=Hi (k:=1) (lo:=0) (hi:=255) h
    generalize hc1 : Qy c 1 0 255=q1 at r1 x1
    have u2:=Zgg _ r1.1
    refine⟨Zg1 [q1.2.1,(Zup q1.2.2).1],⟨p.Id,p.Mobile,p.Pages,p.Procs,p.Ports,q1.1,p.Sems⟩,⟨c.b_,(Zup q1.2.2).2.at_,(Zup q1.2.2).2.bound_⟩,by simp only [Qu,Ju,t1,t2,t3,t4,Zbz c h,hc1,x1,u2,show ¬ (4 : Int)=1 by decide,show ¬ (4 : Int)=2 by decide,show ¬ (4 : Int)=3 by decide,decide_true,decide_false,cond_true,cond_false,Option.bind_some],?_⟩
    simp only [lens];omega
  by_cases t5 : t=5
  · have hn : ((c.bound_ - c.at_).toNat : Int)=c.bound_ - c.at_:=Int.toNat_of_nonneg (by omega)
    have hr:=Zgf c (c.bound_ - c.at_).toNat h
    have ro:=Zuo (n:=(c.bound_ - c.at_).toNat) h
    rw [hn] at hr
    generalize Zos c (c.bound_ - c.at_).toNat=q at hr ro
    have hs:=Zly q p.Sems (by omega)
    refine⟨q.2.1,⟨p.Id,p.Mobile,p.Pages,p.Procs,p.Ports,p.Events,p.Sems ++ q.1.map fun b=>(b.toNat : Int)⟩,⟨c.b_,q.2.2.at_,q.2.2.bound_⟩,by simp only [Qu,Ju,t1,t2,t3,t4,t5,Ys c h,hr,hs,show ¬ (5 : Int)=1 by decide,show ¬ (5 : Int)=2 by decide,show ¬ (5 : Int)=3 by decide,show ¬ (5 : Int)=4 by decide,decide_true,decide_false,cond_true,cond_false,Option.bind_some],?_⟩
    simp only [lens,List.length_append,List.length_map];omega
  · refine⟨.v Zoj,p,c,by simp only [Qu,Ju,t1,t2,t3,t4,t5,decide_false,cond_false],?_⟩
    simp only [lens];omega
def Zlz (e : ErrM) (c : GWireCursor) (p : GPlan) : ErrM × Int × Int × Int × Bool × List GPagePlan × List GProcPlan × List GPortPlan × Int × List Int:=(e,c.at_,c.bound_,p.Id,p.Mobile,p.Pages,p.Procs,p.Ports,p.Events,p.Sems)
def Zl0 (e : ErrM) (p : GPlan) : ErrM × Int × Bool × List GPagePlan × List GProcPlan × List GPortPlan × Int × List Int:=(e,p.Id,p.Mobile,p.Pages,p.Procs,p.Ports,p.Events,p.Sems)
theorem Zso {r c : GWireCursor} {e : ErrM} {p : GPlan} (he : e ≠ .nil) : Qt r (Zlz e c p)=some (.inr (Zl0 e p)):=by
  simp only [Zlz,Qt,Vy,he,decide_false,cond_false,Option.bind_some,Zl0]
theorem Znz {r c : GWireCursor} {p : GPlan} (h : OkCur c) (hb : c.b_=r.b_) (hl : ¬ 0 < c.bound_ - c.at_) : Qt r (Zlz .nil c p)=some (.inr (Zl0 .nil p)):=by
  simp only [Zlz,Qt,Vy,← hb,Qu,Ys c h,hl,decide_true,decide_false,cond_true,cond_false,Option.bind_some,Zl0]
theorem Zsp {r c : GWireCursor} {p : GPlan} (h : OkCur c) (hb : c.b_=r.b_) (hl : 0 < c.bound_ - c.at_) (he : (Ge c).2.2.1 ≠ .nil) : Qt r (Zlz .nil c p)=some (.inl (Zlz (Ge c).2.2.1 (Ge c).2.2.2 p)):=by
  simp only [Zlz,Qt,Vy,← hb,Qu,Ys c h,hl,Znv c h,he,decide_true,decide_false,cond_true,cond_false,Option.bind_some]
theorem Zn0 {r c c' d d' : GWireCursor} {p p' : GPlan} {t : Int} {e : ErrM} (h : OkCur c) (hb : c.b_=r.b_) (hl : 0 < c.bound_ - c.at_) (hn : Ge c=(t,some d,.nil,c')) (hd : d.b_=c.b_) (hp : Ju p t d=some (e,p',d')) : Qt r (Zlz .nil c p)=some (.inl (Zlz e c' p')):=by
  simp only [Zlz,Qt,Vy,← hb,Qu,Ys c h,hl,Znv c h,hn,decide_true,cond_true,Option.bind_some]
  simp only [← hd,Qu]
  rw [show (⟨p.Id,p.Mobile,p.Pages,p.Procs,p.Ports,p.Events,p.Sems⟩ : GPlan)=p from rfl,hp]
  rfl
theorem Zus {c d : GWireCursor} (h : (Ge c).2.1=some d) : d.bound_ - d.at_ ≤ 65535 ∧ 0 ≤ d.bound_ - d.at_ ∧ (Ge c).2.2.1=.nil:=by
  have hn:=Znu (Zi9 c.b_ (c.at_.toNat + 1) 2)
  unfold Ge at h ⊢
  split at h
  · cases h
  · split at h
    · cases h
    · split at h
      · cases h
      · rename_i h1 h2 h3
        rw [if_neg h1,if_neg h2,if_neg h3]
        cases h
        exact⟨by simp only;omega,by simp only;omega,rfl⟩
theorem Zsq {r : GWireCursor} (hr : r.b_.length ≤ 4294967296) {c : GWireCursor} {p : GPlan} {e : ErrM} (h : OkCur c) (hb : c.b_=r.b_) (hl : (lens p : Int) ≤ c.at_) : ∃ e' p',Vj (Qt r) (Zlz e c p)=some (Zl0 e' p'):=by
  have key:=Zc5 (L:=Qt r) (fun s=>∃ e c p,s=Zlz e c p ∧ OkCur c ∧ c.b_=r.b_ ∧ (lens p : Int) ≤ c.at_) (fun o=>∃ e p,o=Zl0 e p) (fun s=>if s.1=.nil then (s.2.2.1 - s.2.1).toNat + 1 else 0) (fun s hI=>by
    obtain⟨e,c,p,rfl,h,hb,hl⟩:=hI
    have ok:=h
    obtain⟨k1,k2,k3,k4⟩:=h
    rw [hb] at k3
    by_cases he : e=.nil
    · subst he
      by_cases h0 : 0 < c.bound_ - c.at_
      · obtain⟨n1,n2,n3,n4,n5⟩:=Zkd ok
        by_cases hn : (Ge c).2.2.1=.nil
        · obtain⟨d,hd⟩:=n5 hn
          obtain⟨d1,d2,d3,d4⟩:=n4 d hd
          obtain⟨m1,m2,_⟩:=Zus hd
          obtain⟨e',p',d',hp,hle⟩:=Zur (p:=p) (t:=(Ge c).1) d1 (by omega) (by omega)
          have hnx : Ge c=((Ge c).1,some d,.nil,(Ge c).2.2.2):=by rw [← hd,← hn]
          refine .inl ⟨_,Zn0 ok hb h0 hnx d2 hp,⟨e',_,p',rfl,n1,n2.trans hb,by omega⟩,?_⟩
          simp only [Zlz,if_true,n3]
          split <;> omega
        · refine .inl ⟨_,Zsp ok hb h0 hn,⟨_,_,p,rfl,n1,n2.trans hb,?_⟩,?_⟩
          · have : (Ge c).2.2.2.at_=c.at_:=by
              unfold Ge at hn ⊢
              split
              · rfl
              · split
                · rfl
                · split
                  · rfl
                  · rename_i h1 h2 h3
                    rw [if_neg h1,if_neg h2,if_neg h3] at hn
                    exact absurd rfl hn
            omega
          · simp only [Zlz,hn,if_true,if_false];omega
      · exact .inr ⟨_,Znz ok hb h0,⟨_,_,rfl⟩⟩
    · exact .inr ⟨_,Zso he,⟨_,_,rfl⟩⟩) (s:=Zlz e c p) ⟨e,c,p,rfl,h,hb,hl⟩
  obtain⟨_,h1,e',p',rfl⟩:=key
  exact⟨e',p',h1⟩
theorem Zn1 {a b : List UInt8} : Za6 a=Za6 b ↔ a=b:=by
  constructor
  · intro h
    have:=congrArg (fun x : ByteArray=>x.data.toList) h
    simpa [Za6] using this
  · exact congrArg Za6
instance opensDec (s : List UInt8) : Decidable (Zgh s):=by unfold Zgh;infer_instance
theorem Zn2 (b : List UInt8) (h : b.length ≤ 140737488355328) : Zab b=some (if b.length < 4 then ([],.v Vb) else if Zgh b then (b.take (b.length - 4),.nil) else ([],.v gSum)):=by
  by_cases h4 : b.length < 4
  · simp only [Zab,h4,decide_true,cond_true,if_true]
  · have hw : IntKind.i64.wrap (((b.length : Nat) : Int) - 4)=((b.length - 4 : Nat) : Int):=by rw [Qb ⟨by omega,by omega⟩];omega
    have hl : (b.take (b.length - 4)).length=b.length - 4:=by rw [List.length_take];omega
    have c1 : (0 : Int) ≤ ((b.length - 4 : Nat) : Int) ∧ ((b.length - 4 : Nat) : Int) ≤ ((b.length : Nat) : Int):=⟨by omega,by omega⟩
    have c2 : (0 : Int) ≤ ((b.length - 4 : Nat) : Int) ∧ ((b.length - 4 : Nat) : Int) ≤ ((b.length : Nat) : Int) ∧ ((b.length : Nat) : Int) ≤ ((b.length : Nat) : Int):=⟨by omega,by omega,by omega⟩
    have hd : (b.drop (b.length - 4)).take (b.length - (b.length - 4))=b.drop (b.length - 4):=List.take_of_length_le (by rw [List.length_drop];omega)
    have e : ∀ z,Za8 z=some (Zm4 z):=fun _=>rfl
    have hc : Ua (b.take (b.length - 4))=some (b.take (b.length - 4)):=by
      have c : (([] : List UInt8).length + (b.take (b.length - 4)).length) * 1 ≤ 140737488355328:=by rw [hl];simp only [List.length_nil];omega
      simp only [Ua,chk,c,if_true,List.nil_append]
    by_cases ho : Zgh b
    · have hq : Za6 (Zm4 (Zh4 (b.take (b.length - 4))))=Za6 (b.drop (b.length - 4)):=by rw [ho.2]
      simp only [Zab,h4,hw,hl,Int.toNat_natCast,chk,c1,c2,and_self,hd,Zkb,e,Tr,hq,hc,ho,decide_true,decide_false,Bool.not_true,cond_false,Option.bind_some,if_true,if_false]
    · have hq : ¬ Za6 (Zm4 (Zh4 (b.take (b.length - 4))))=Za6 (b.drop (b.length - 4)):=fun hh=>ho ⟨by omega,(Zn1.1 hh).symm⟩
      simp only [Zab,h4,hw,hl,Int.toNat_natCast,chk,c1,c2,and_self,hd,Zkb,e,Tr,hq,ho,decide_false,Bool.not_false,cond_true,cond_false,Option.bind_some,if_true,if_false]
theorem Zia (a b : List UInt8) : Jq a b=some (decide (a=b)):=by
  by_cases hl : a.length=b.length
  · have h:=Zf1 (L:=Jm a b) hl (fun i x y hi hx hy=>by
      simp only [Jm,hi,hx,hy,decide_true,cond_true,Option.bind_some]
      by_cases e : x=y
      · simp [e]
      · have : ¬ ((x.toNat : Int)=(y.toNat : Int)):=fun h=>e (UInt8.toNat_inj.1 (by omega))
        simp [e,this]) (by simp [Jm])
    simp only [Jq,hl,decide_true,Bool.not_true,cond_false,h,Option.bind_some]
    by_cases e : a=b <;> simp [e]
  · simp only [Jq,hl,decide_false,Bool.not_false,cond_true,Zh9 hl]
def noP : GPlan:=⟨0,false,[],[],[],0,[]⟩
theorem Ze6 {p : GPlan} (h : Hu p ≠ .nil) : Yb p=some ([],.v Hr):=by
  simp only [Yb,Zbb,h,decide_false,Bool.not_false,cond_true,Option.bind_some]
theorem Zjc (b : List UInt8) (h : b.length ≤ 140737488355328) : Zbj b=some ⟨b,0,((b.length : Nat) : Int)⟩:=by
  have c : (([] : List UInt8).length + b.length) * 1 ≤ 140737488355328:=by simp only [List.length_nil];omega
  simp only [Zbj,Xl,chk,c,if_true,Option.bind_some,List.nil_append]
theorem Zl1 (b : List UInt8) (h : b.length ≤ 140737488355328) : OkCur ⟨b,0,((b.length : Nat) : Int)⟩:=⟨Int.le_refl _,by simp only;omega,Int.le_refl _,h⟩
theorem Zl2 (s : ByteArray) : Za6 s.data.toList=s:=by cases s;simp [Za6]
theorem Zsr {c : GWireCursor} {x : GPagePlan} (h : Sees c (Hn x)) (h0 : 0 ≤ x.Rights) (h1 : x.Rights ≤ 7) : ∃ d,Gm c=some (x,.nil,d):=by
  obtain⟨e1,s1⟩:=h.num (lo:=0) (hi:=255) (by omega) h0 (by omega) h0 (by decide)
  have hr:=Zgf _ ((adv c ((1 : Nat) : Int)).bound_ - (adv c ((1 : Nat) : Int)).at_).toNat s1.ok
  obtain⟨e2,s2⟩:=s1.raw
  rw [e2] at hr
  have hn : ((((adv c ((1 : Nat) : Int)).bound_ - (adv c ((1 : Nat) : Int)).at_).toNat : Nat) : Int)=(adv c ((1 : Nat) : Int)).bound_ - (adv c ((1 : Nat) : Int)).at_:=Int.toNat_of_nonneg (by have:=s1.ok.ab;omega)
  rw [hn] at hr
  have hl:=Ys _ s1.ok
  have hu:=Zbz c h.ok
  rw [e1] at hu
  refine⟨adv (adv c ((1 : Nat) : Int)) (x.Init.data.toList.length : Int),?_⟩
  simp only [Qu,Gm,hu,Option.bind_some,decide_true,Bool.not_true,cond_false]
  simp only [adv] at hl hr ⊢
  simp only [hl,Option.bind_some,hr,Zl2]
theorem Zss {c : GWireCursor} {x : GProcPlan} (h : Sees c (Ty x)) (h0 : 0 ≤ x.Prio) (h1 : x.Prio ≤ 255) (h2 : 0 ≤ x.Entry) (h3 : x.Entry < 2048) : ∃ d,Hy c=some (x,.nil,d):=by
  obtain⟨e1,s1⟩:=h.num (lo:=0) (hi:=4294967295) (by omega) h2 (by omega) h2 (by decide)
  obtain⟨e2,s2⟩:=s1.num (lo:=0) (hi:=255) (by omega) h0 h1 h0 (by decide)
  obtain⟨e3,s3⟩:=Sees.flag (b:=x.Auto) (r:=[]) (by rw [List.append_nil];exact s2)
  have u1:=Zge c h.ok
  have u2:=Zbz _ s1.ok
  have u3:=Zhd _ s2.ok
  have u4:=Zgg _ s3.ok
  rw [e1] at u1;rw [e2] at u2;rw [e3] at u3;rw [s3.ended] at u4
  refine⟨adv (adv (adv c ((4 : Nat) : Int)) ((1 : Nat) : Int)) 1,?_⟩
  simp only [adv] at u1 u2 u3 u4
  simp only [Qu,Hy,u1,Option.bind_some,u2,u3,u4]
  rfl
theorem Zst {c : GWireCursor} {x : GPortPlan} (h : Sees c (Zas x)) (h0 : 1 ≤ x.Kind ∧ x.Kind ≤ 4 ∧ 1 ≤ x.Size ∧ x.Size ≤ 32 ∧ 1 ≤ x.Depth ∧ x.Depth ≤ 8 ∧ 0 ≤ x.Refresh ∧ x.Refresh ≤ 255) : ∃ d,Ub c=some (x,.nil,d):=by
  obtain⟨e1,s1⟩:=h.num (lo:=0) (hi:=255) (by omega) (by omega) (by omega) (by omega) (by decide)
  obtain⟨e2,s2⟩:=s1.num (lo:=0) (hi:=255) (by omega) (by omega) (by omega) (by omega) (by decide)
  obtain⟨e3,s3⟩:=s2.num (lo:=0) (hi:=255) (by omega) (by omega) (by omega) (by omega) (by decide)
  obtain⟨e4,s4⟩:=s3.num0 (lo:=0) (hi:=255) (by omega) (by omega) (by omega) (by omega) (by decide)
  have u1:=Zbz c h.ok
  have u2:=Zbz _ s1.ok
  have u3:=Zbz _ s2.ok
  have u4:=Zbz _ s3.ok
  have u5:=Zgg _ s4.ok
  rw [e1] at u1;rw [e2] at u2;rw [e3] at u3;rw [e4] at u4;rw [s4.ended] at u5
  refine⟨adv (adv (adv (adv c ((1 : Nat) : Int)) ((1 : Nat) : Int)) ((1 : Nat) : Int)) ((1 : Nat) : Int),?_⟩
  simp only [adv] at u1 u2 u3 u4 u5
  simp only [Qu,Ub,u1,Option.bind_some,u2,u3,u4,u5]
  rfl
abbrev Item:=Int × List UInt8 × (GPlan → GPlan)
def Zib (i : Item) : Prop:=1 ≤ i.1 ∧ i.1 ≤ 255 ∧ i.2.1.length ≤ 65535 ∧ ∀ (q : GPlan) (d : GWireCursor),Sees d i.2.1 → lens q ≤ 5000 → ∃ d',Ju q i.1 d=some (.nil,i.2.2 q,d') ∧ lens (i.2.2 q) ≤ lens q + 8
def Zkh (x : GPagePlan) (q : GPlan) : GPlan:=⟨q.Id,q.Mobile,q.Pages ++ [x],q.Procs,q.Ports,q.Events,q.Sems⟩
def Zki (x : GProcPlan) (q : GPlan) : GPlan:=⟨q.Id,q.Mobile,q.Pages,q.Procs ++ [x],q.Ports,q.Events,q.Sems⟩
def Zkj (x : GPortPlan) (q : GPlan) : GPlan:=⟨q.Id,q.Mobile,q.Pages,q.Procs,q.Ports ++ [x],q.Events,q.Sems⟩
def evU (n : Int) (q : GPlan) : GPlan:=⟨q.Id,q.Mobile,q.Pages,q.Procs,q.Ports,n,q.Sems⟩
def Zth (l : List Int) (q : GPlan) : GPlan:=⟨q.Id,q.Mobile,q.Pages,q.Procs,q.Ports,q.Events,q.Sems ++ l⟩
theorem Zqy {x : GPagePlan} (h : 0 ≤ x.Rights ∧ x.Rights ≤ 7 ∧ x.Init.size ≤ 64) : Zib (1,Hn x,Zkh x):=by
  refine⟨by simp,by simp,by simp only [Zbw];omega,fun q d hs hq=>?_⟩
  unfold lens at hq
  obtain⟨d',hp⟩:=Zsr hs h.1 h.2.1
  have c1 : (q.Pages.length + [x].length) * 24 ≤ 140737488355328:=by simp only [List.length_cons,List.length_nil];omega
  exact⟨⟨d.b_,d'.at_,d'.bound_⟩,by simp only [Qu,Ju,hp,chk,c1,decide_true,cond_true,Option.bind_some,if_true];rfl,by simp only [lens,Zkh,List.length_append,List.length_cons,List.length_nil];omega⟩
theorem Zqz {x : GProcPlan} (h : 0 ≤ x.Prio ∧ x.Prio ≤ 255 ∧ 0 ≤ x.Entry ∧ x.Entry < 2048) : Zib (2,Ty x,Zki x):=by
  refine⟨by simp,by simp,by simp only [Zbx];omega,fun q d hs hq=>?_⟩
  unfold lens at hq
  obtain⟨d',hp⟩:=Zss hs h.1 h.2.1 h.2.2.1 h.2.2.2
  have c1 : (q.Procs.length + [x].length) * 24 ≤ 140737488355328:=by simp only [List.length_cons,List.length_nil];omega
  exact⟨⟨d.b_,d'.at_,d'.bound_⟩,by simp only [Qu,Ju,hp,chk,c1,show ¬ (2 : Int)=1 by decide,decide_true,decide_false,cond_true,cond_false,Option.bind_some,if_true];rfl,by simp only [lens,Zki,List.length_append,List.length_cons,List.length_nil];omega⟩
theorem Zq0 {x : GPortPlan} (h : 1 ≤ x.Kind ∧ x.Kind ≤ 4 ∧ 1 ≤ x.Size ∧ x.Size ≤ 32 ∧ 1 ≤ x.Depth ∧ x.Depth ≤ 8 ∧ 0 ≤ x.Refresh ∧ x.Refresh ≤ 255) : Zib (3,Zas x,Zkj x):=by
  refine⟨by simp,by simp,by simp only [Zby];omega,fun q d hs hq=>?_⟩
  unfold lens at hq
  obtain⟨d',hp⟩:=Zst hs h
  have c1 : (q.Ports.length + [x].length) * 32 ≤ 140737488355328:=by simp only [List.length_cons,List.length_nil];omega
  exact⟨⟨d.b_,d'.at_,d'.bound_⟩,by simp only [Qu,Ju,hp,chk,c1,show ¬ (3 : Int)=1 by decide,show ¬ (3 : Int)=2 by decide,decide_true,decide_false,cond_true,cond_false,Option.bind_some,if_true];rfl,by simp only [lens,Zkj,List.length_append,List.length_cons,List.length_nil];omega⟩
theorem Zut {n : Int} (h0 : 0 ≤ n) (h1 : n ≤ 8) : Zib (4,be n 1,evU n):=by
  refine⟨by simp,by simp,by simp only [Xg];omega,fun q d hs hq=>?_⟩
  obtain⟨e1,s1⟩:=hs.num0 (lo:=0) (hi:=255) (by omega) h0 (by omega) h0 (by decide)
  have u1:=Zbz d hs.ok
  have u2:=Zgg _ s1.ok
  rw [e1] at u1;rw [s1.ended] at u2
  simp only [adv] at u1 u2
  refine⟨adv d ((1 : Nat) : Int),by simp only [Qu,Ju,u1,u2,show ¬ (4 : Int)=1 by decide,show ¬ (4 : Int)=2 by decide,show ¬ (4 : Int)=3 by decide,decide_true,decide_false,cond_true,cond_false,Option.bind_some];rfl,by simp only [lens,evU];omega⟩
theorem Zic : ∀ {l : List Int},(∀ n ∈ l,0 ≤ n ∧ n ≤ 255) → (l.flatMap Zfa).map (fun b=>(b.toNat : Int))=l
  | [],_=>rfl
  | n :: l,h=>by
    have hn:=h n (List.mem_cons_self ..)
    have hb:=Gk n
    have hs : shR .i64 n ((8 * 0 : Nat) : Int)=n:=by unfold shR;simp
    rw [List.flatMap_cons,List.map_append,Zic fun m hm=>h m (List.mem_cons_of_mem _ hm)]
    show ((Zt (shR .i64 n ((8 * 0 : Nat) : Int))).toNat : Int) :: l=n :: l
    rw [hs,hb,show n % 256=n by omega]
theorem Zsu {l : List Int} (h : ∀ n ∈ l,0 ≤ n ∧ n ≤ 255) (hl : l.length ≤ 8) : Zib (5,l.flatMap Zfa,Zth l):=by
  have hf : (l.flatMap Zfa).length ≤ l.length * 1:=Wg fun x _=>by rw [Zfa,Xg];omega
  refine⟨by simp,by simp,by simp only;omega,fun q d hs hq=>?_⟩
  unfold lens at hq
  have hr:=Zgf d (d.bound_ - d.at_).toNat hs.ok
  obtain⟨e2,s2⟩:=hs.raw
  rw [e2] at hr
  have hn : (((d.bound_ - d.at_).toNat : Nat) : Int)=d.bound_ - d.at_:=Int.toNat_of_nonneg (by have:=hs.ok.ab;omega)
  rw [hn] at hr
  have hsl:=Zly (l.flatMap Zfa,.nil,adv d (l.flatMap Zfa).length) q.Sems (by simp only;omega)
  rw [Zic h] at hsl
  refine⟨adv d (l.flatMap Zfa).length,by simp only [Qu,Ju,Ys d hs.ok,hr,hsl,show ¬ (5 : Int)=1 by decide,show ¬ (5 : Int)=2 by decide,show ¬ (5 : Int)=3 by decide,show ¬ (5 : Int)=4 by decide,decide_true,decide_false,cond_true,cond_false,Option.bind_some];rfl,by simp only [lens,Zth,List.length_append];omega⟩
theorem Zjd {r : GWireCursor} : ∀ (its : List Item) (q : GPlan) (c : GWireCursor),(∀ i ∈ its,Zib i) → Sees c (its.flatMap fun i=>Tz i.1 i.2.1) → c.b_=r.b_ → lens q + 8 * its.length ≤ 5000 →
    Vj (Qt r) (Zlz .nil c q)=some (Zl0 .nil (its.foldl (fun q i=>i.2.2 q) q))
  | [],q,c,_,hs,hb,_=>by
    have hl:=hs.left
    exact Ka (Znz hs.ok hb (by rw [hl];simp))
  | i :: its,q,c,hI,hs,hb,hq=>by
    obtain⟨t0,t1,hlen,hput⟩:=hI i (List.mem_cons_self ..)
    rw [List.flatMap_cons] at hs
    have hl:=hs.left
    rw [List.length_append,Um] at hl
    obtain⟨d,hn,sd,hdb,sc⟩:=hs.next t0 t1 hlen
    rw [List.length_cons] at hq
    obtain⟨d',hp,hle⟩:=hput q d sd (by omega)
    rw [Xi (Zn0 hs.ok hb (by omega) hn hdb hp)]
    exact Zjd its _ _ (fun j hj=>hI j (List.mem_cons_of_mem _ hj)) sc hb (by omega)
def Zkk (p : GPlan) : List Item:=p.Pages.map (fun x=>(1,Hn x,Zkh x)) ++ (p.Procs.map (fun x=>(2,Ty x,Zki x)) ++ (p.Ports.map (fun x=>(3,Zas x,Zkj x)) ++ [(4,be p.Events 1,evU p.Events),(5,p.Sems.flatMap Zfa,Zth p.Sems)]))
theorem Zot (p : GPlan) : (Zkk p).flatMap (fun i=>Tz i.1 i.2.1)=Kx p:=by
  simp only [Zkk,Kx,List.flatMap_append,List.flatMap_map,List.flatMap_cons,List.flatMap_nil,List.append_nil]
theorem Zsv {p : GPlan} (ok : OkK p) : ∀ i ∈ Zkk p,Zib i:=by
  intro i hi
  simp only [Zkk,List.mem_append,List.mem_map,List.mem_cons,List.not_mem_nil,or_false] at hi
  rcases hi with ⟨x,hx,rfl⟩ | ⟨x,hx,rfl⟩ | ⟨x,hx,rfl⟩|rfl|rfl
  · exact Zqy (ok.pag x hx)
  · obtain⟨h1,h2,h3,h4,_⟩:=ok.prio x hx
    exact Zqz ⟨h1,h2,h3,h4⟩
  · exact Zq0 (ok.dep x hx).2
  · exact Zut ok.ev0 ok.ev1
  · exact Zsu ok.sem ok.se1
theorem Zgi : ∀ (l : List GPagePlan) (q : GPlan),l.foldl (fun q x=>Zkh x q) q=⟨q.Id,q.Mobile,q.Pages ++ l,q.Procs,q.Ports,q.Events,q.Sems⟩
  | [],q=>by simp
  | x :: l,q=>by rw [List.foldl_cons,Zgi l];simp [Zkh]
theorem Zgj : ∀ (l : List GProcPlan) (q : GPlan),l.foldl (fun q x=>Zki x q) q=⟨q.Id,q.Mobile,q.Pages,q.Procs ++ l,q.Ports,q.Events,q.Sems⟩
  | [],q=>by simp
  | x :: l,q=>by rw [List.foldl_cons,Zgj l];simp [Zki]
theorem Zgk : ∀ (l : List GPortPlan) (q : GPlan),l.foldl (fun q x=>Zkj x q) q=⟨q.Id,q.Mobile,q.Pages,q.Procs,q.Ports ++ l,q.Events,q.Sems⟩
  | [],q=>by simp
  | x :: l,q=>by rw [List.foldl_cons,Zgk l];simp [Zkj]
theorem Zou (p : GPlan) : (Zkk p).foldl (fun q i=>i.2.2 q) ⟨p.Id,p.Mobile,[],[],[],0,[]⟩=p:=by
  simp only [Zkk,List.foldl_append,List.foldl_map,List.foldl_cons,List.foldl_nil,Zgi,Zgj,Zgk,evU,Zth,List.nil_append]
theorem Zq1 {p : GPlan} (ok : OkK p) : (Zkk p).length ≤ 50:=by
  have h1:=ok.pg1;have h2:=ok.pr1;have h3:=ok.po1
  simp only [Zkk,List.length_append,List.length_map,List.length_cons,List.length_nil];omega
theorem Ziq {p : GPlan} (h : Hu p=.nil) : Jh (Jy p)=some (p,.nil):=by
  have ok:=Zfx h
  have hrl:=Zat ok
  have hhl:=Gw p
  have hbl : (Jx p).length=15 + (Kx p).length:=by rw [Jx,List.length_append,hhl]
  have h4 : (Zgb (Zh4 (Jx p))).length=4:=rfl
  have hlen : (Jy p).length=15 + (Kx p).length + 4:=by rw [Jy,List.length_append,hbl,h4]
  have hop : Zgh (Jy p):=Zjb (Jx p)
  have htk : (Jy p).take ((Jy p).length - 4)=Jx p:=by
    rw [hlen,show 15 + (Kx p).length + 4 - 4=(Jx p).length by omega,Jy,List.take_left]
  have hO:=Zn2 (Jy p) (by omega)
  rw [if_neg (by omega),if_pos hop,htk] at hO
  have h15 : ¬ (Jx p).length < 15:=by omega
  have c6 : (0 : Int) ≤ 6 ∧ (6 : Int) ≤ (((Jx p).length : Nat) : Int):=⟨by decide,by omega⟩
  have e6 : Jx p=(Jp ++ be 1 2) ++ (be (((15 + (Kx p).length + 4 : Nat)) : Int) 4 ++ (be p.Id 4 ++ (Zds p.Mobile ++ Kx p))):=by
    simp only [Jx,Zf0,List.append_assoc]
  have l6 : (Jp ++ be 1 2).length=6:=by simp [Jp,Xg]
  have t6 : (Jx p).take (6 : Int).toNat=Jp ++ be 1 2:=by
    rw [e6,show (6 : Int).toNat=(Jp ++ be 1 2).length from by rw [l6];rfl,List.take_left]
  have hk : Za6 ((Jx p).take (6 : Int).toNat)=⟨#[70,80,76,78,0,1]⟩:=by rw [t6];kernel_rfl
  have hOp:=Zjc (Jx p) (by omega)
  have ok0:=Zl1 (Jx p) (by omega)
  have hs0 : Sees ⟨Jx p,0,(((Jx p).length : Nat) : Int)⟩ (Jx p):=⟨ok0,by
    simp only [cut,Int.sub_zero,Int.toNat_natCast,Int.toNat_zero,List.drop_zero]
    exact List.take_of_length_le (Nat.le_refl _)⟩
  generalize hc0 : (⟨Jx p,0,(((Jx p).length : Nat) : Int)⟩ : GWireCursor)=c0 at hOp ok0 hs0
  have hb0 : c0.b_=Jx p:=by rw [← hc0]
  rw [e6] at hs0
  have s1:=hs0.behind
  rw [l6] at s1
  have hraw : Xf c0 6=some (cut c0.b_ c0.at_.toNat 6,.nil,adv c0 ((6 : Nat) : Int)):=by
    have hr:=Zgf c0 6 ok0
    have hl:=hs0.left
    rw [List.length_append,l6] at hl
    unfold Zos at hr
    rw [if_neg (by omega)] at hr
    exact hr
  obtain⟨e2,s2⟩:=s1.num (lo:=0) (hi:=4294967295) (by omega) (by omega) (by omega) (by omega) (by decide)
  obtain⟨e3,s3⟩:=s2.num (lo:=0) (hi:=4294967295) (by omega) ok.id0 (by have:=ok.id1;omega) ok.id0 (by decide)
  obtain⟨e4,s4⟩:=s3.flag
  have u2:=Zge _ s1.ok
  have u3:=Zge _ s2.ok
  have u4:=Zhd _ s3.ok
  rw [e2] at u2;rw [e3] at u3;rw [e4] at u4
  rw [← Zot] at s4
  have hL:=Zjd (r:=c0) (Zkk p) ⟨p.Id,p.Mobile,[],[],[],0,[]⟩ _ (Zsv ok) s4 rfl (by have:=Zq1 ok;simp only [lens,List.length_nil];omega)
  rw [Zou] at hL
  have hn : ((15 + (Kx p).length + 4 : Nat) : Int)=(((Jy p).length : Nat) : Int):=by rw [hlen]
  simp only [adv,Zlz,Zl0] at hraw u2 u3 u4 hL
  simp only [Jh,hO,h15,hk,chk,c6,and_self,hOp,hraw,Qu,u2,u3,u4,hn,if_true,Option.bind_some,decide_true,decide_false,Bool.not_true,cond_false]
  rw [hL]
  simp only [Option.bind_some,decide_true,Bool.not_true,cond_false,Zc7 h,Zia,Yt]
end Go.Proofs.YtfemfiiagjnhdaaGreatDoor
set_option linter.unusedVariables false
set_option linter.unusedSimpArgs false
set_option linter.unusedSectionVars false
namespace Go.Proofs.YtfemfiiagjnhdaaGreatDoor
open Go Go.RowKit
theorem Zq2 {p : GPlan} (h : Hu p=.nil) : Zad p=some (Zh4 (Jx p),.nil):=by
  have ok:=Zfx h
  have hrl:=Zat ok
  have hbl : (Jx p).length=15 + (Kx p).length:=by rw [Jx,List.length_append,Gw]
  have h4 : (Zgb (Zh4 (Jx p))).length=4:=rfl
  have hlen : (Jy p).length=(Jx p).length + 4:=by rw [Jy,List.length_append,h4]
  have hw : IntKind.i64.wrap ((((Jy p).length : Nat) : Int) - 4)=(((Jx p).length : Nat) : Int):=by rw [Qb ⟨by omega,by omega⟩];omega
  have c1 : (0 : Int) ≤ (((Jx p).length : Nat) : Int) ∧ (((Jx p).length : Nat) : Int) ≤ (((Jy p).length : Nat) : Int):=⟨by omega,by omega⟩
  have ht : (Jy p).take (Jx p).length=Jx p:=by rw [Jy,List.take_left]
  simp only [Zad,Zc7 h,hw,chk,c1,and_self,if_true,Option.bind_some,decide_true,Bool.not_true,cond_false,Int.toNat_natCast,ht,Zkb]
theorem Zgl (p : GPlan) : (Jy p).length=19 + (Kx p).length:=by
  have h4 : (Zgb (Zh4 (Jx p))).length=4:=rfl
  rw [Jy,List.length_append,h4,Jx,List.length_append,Gw];omega
end Go.Proofs.YtfemfiiagjnhdaaGreatDoor
set_option linter.unusedVariables false
set_option linter.unusedSimpArgs false
set_option linter.unusedSectionVars false
namespace Go.Proofs.YtfemfiiagjnhdaaGreatDoor
open Go Go.RowKit
theorem Zsw {z : Nat} (c : UInt8) (h : z < 4294967296) : Zcz (z : Int) ((c.toNat : Nat) : Int)=some ((moveN z c : Nat) : Int):=by
  have hc:=c.toNat_lt
  have key : ∀ (m k x : Nat),k + m=8 → x < 4294967296 → Vj Vr ((x : Int),k)=some ((itN m x : Nat) : Int):=by
    intro m
    induction m with
    | zero=>
      intro k x hk hx
      obtain rfl : k=8:=by omega
      exact Ka (by simp [Vr,itN])
    | succ m ih=>
      intro k x hk hx
      have hlt : k < 8:=by omega
      have hs:=Tx hx
      unfold Zfv at hs
      have e : Vr ((x : Int),k)=some (.inl (((stepN x : Nat) : Int),k + 1)):=by
        by_cases hb : Zho .u32 (x : Int) 1=1
        · rw [if_pos hb] at hs
          simp only [Vr,Tu,hlt,hb,hs,decide_true,cond_true,Option.bind_some]
        · rw [if_neg hb] at hs
          simp only [Vr,Tu,hlt,hb,hs,decide_true,decide_false,cond_true,cond_false,Option.bind_some]
      rw [Xi e,ih (k + 1) _ (by omega) (Za4 hx)]
      rfl
  have hx : z ^^^ c.toNat < 4294967296:=Nat.xor_lt_two_pow (n:=32) h (by omega)
  have e1 : Uo .u32 (z : Int) (IntKind.u32.wrap ((c.toNat : Nat) : Int))=((z ^^^ c.toNat : Nat) : Int):=by
    rw [Zhe (by omega),Zc8 h (by omega)]
  simp only [Zcz,e1,key 8 0 _ rfl hx,Option.bind_some]
  rfl
theorem Zkl (b : List UInt8) : Zbp b=some (Zh4 b):=by
  have key : ∀ m k (z : Nat),k + m=b.length → z < 4294967296 → Vj (Gn b) ((z : Int),k)=some ((((b.drop k).foldl moveN z : Nat) : Int)):=by
    intro m
    induction m with
    | zero=>
      intro k z hk hz
      rw [List.drop_eq_nil_of_le (by omega)]
      exact Ka (by simp only [Gn,show ¬ k < b.length by omega,decide_false,cond_false];rfl)
    | succ m ih=>
      intro k z hk hz
      have hlt : k < b.length:=by omega
      have hx : b[k]? = some b[k]:=List.getElem?_eq_getElem hlt
      have hd : b.drop k=b[k] :: b.drop (k + 1):=List.drop_eq_getElem_cons hlt
      rw [Xi (s':=(((moveN z b[k] : Nat) : Int),k + 1)) (by simp only [Gn,hlt,hx,Zsw b[k] hz,decide_true,cond_true,Option.bind_some]),ih (k + 1) _ (by omega) (Znx _ hz),hd]
      rfl
  have h:=key b.length 0 4294967295 (by omega) (by decide)
  have hr:=Zqx b
  have e : Uo .u32 ((b.foldl moveN 4294967295 : Nat) : Int) 4294967295=((sumN b : Nat) : Int):=by
    have:=Zc8 (a:=b.foldl moveN 4294967295) (b:=4294967295) hr (by decide)
    rw [Nat.xor_comm] at this
    exact this
  have h' : Vj (Gn b) (4294967295,0)=some ((b.foldl moveN 4294967295 : Nat) : Int):=h
  simp only [Zbp,h',Option.bind_some,e,Zsk]
theorem w64_8 {i : Nat} (h : i < 4) : IntKind.i64.wrap (8 * ((i : Nat) : Int))=((8 * i : Nat) : Int):=by rw [Qb ⟨by omega,by omega⟩];omega
theorem shR_0 (z : Int) : shR .u32 z 0=z:=by unfold shR;simp
theorem Zsx (b : List UInt8) (h : b.length ≤ 100000000) : Zc0 b=some (b ++ Zgb (Zh4 b)):=by
  have c1 : (([] : List UInt8).length + b.length) * 1 ≤ 140737488355328:=by simp only [List.length_nil];omega
  generalize hz : Zh4 b=z
  have st : ∀ (l : List UInt8) (i : Nat),i < 4 → l.length ≤ 100000010 → Uf z (l,i)=some (.inl (l ++ [Zt (shR .u32 z ((8 * i : Nat) : Int))],i + 1)):=fun l i hi hl=>by
    have c2 : (0 : Int) ≤ ((8 * i : Nat) : Int):=by omega
    have c3 : (l.length + [(Zt (shR .u32 z ((8 * i : Nat) : Int)))].length) * 1 ≤ 140737488355328:=by simp only [List.length_cons,List.length_nil];omega
    simp only [Uf,hi,w64_8 hi,chk,c2,c3,if_true,decide_true,cond_true]
  have hL : Vj (Uf z) (b,0)=some (b ++ Zgb z):=by
    rw [Xi (st b 0 (by omega) (by omega)),Xi (st _ 1 (by omega) (by simp;omega)),Xi (st _ 2 (by omega) (by simp;omega)),Xi (st _ 3 (by omega) (by simp;omega))]
    refine Ka ?_
    simp only [Uf,show ¬ (3 + 1 : Nat) < 4 by omega,decide_false,cond_false,List.append_assoc]
    have : shR .u32 z ((8 * 0 : Nat) : Int)=z:=shR_0 z
    rw [this]
    rfl
  simp only [Zc0,chk,c1,if_true,Zkl,hz,List.nil_append,hL,Option.bind_some]
theorem Zsy (b : List UInt8) (h : b.length ≤ 140737488355328) : Zac b=some (if b.length < 4 then ([],1) else if Zgh b then (b.take (b.length - 4),0) else ([],6)):=by
  by_cases h4 : b.length < 4
  · simp only [Zac,h4,decide_true,cond_true,if_true]
  · have hw : IntKind.i64.wrap (((b.length : Nat) : Int) - 4)=((b.length - 4 : Nat) : Int):=by rw [Qb ⟨by omega,by omega⟩];omega
    have hl : (b.take (b.length - 4)).length=b.length - 4:=by rw [List.length_take];omega
    have c1 : (0 : Int) ≤ ((b.length - 4 : Nat) : Int) ∧ ((b.length - 4 : Nat) : Int) ≤ ((b.length : Nat) : Int):=⟨by omega,by omega⟩
    have c3 : (([] : List UInt8).length + (b.take (b.length - 4)).length) * 1 ≤ 140737488355328:=by rw [hl];simp only [List.length_nil];omega
    generalize hz : Zh4 (b.take (b.length - 4))=z
    have l4 : (Zgb z).length=4:=rfl
    have hd : (b.drop (b.length - 4)).length=4:=by rw [List.length_drop];omega
    have hL:=Gv (L:=Hc b z) (l:=(b.drop (b.length - 4)).zip (Zgb z)) (f:=fun _ (p : UInt8 × UInt8)=>if decide (p.1=p.2)=true then none else some ((([] : List UInt8),(6 : Int)))) (fun i p hi hp=>by
      obtain⟨h3,h4'⟩:=List.getElem?_zip_eq_some.1 hp
      have hi4 : i < 4:=by rw [List.length_zip,hd,l4] at hi;omega
      have c2 : (0 : Int) ≤ ((8 * i : Nat) : Int):=by omega
      have wi : IntKind.i64.wrap (((b.length - 4 : Nat) : Int) + ((i : Nat) : Int))=((b.length - 4 + i : Nat) : Int):=by rw [Qb ⟨by omega,by omega⟩];omega
      have hr : rdI b ((b.length - 4 + i : Nat) : Int)=some p.1:=by
        unfold rdI
        rw [if_pos (by omega),Int.toNat_natCast]
        rw [List.getElem?_drop] at h3
        exact h3
      have hq : Zt (shR .u32 z ((8 * i : Nat) : Int))=p.2:=by
        rcases (by omega : i=0 ∨ i=1 ∨ i=2 ∨ i=3) with rfl|rfl|rfl|rfl
        · have : shR .u32 z ((8 * 0 : Nat) : Int)=z:=shR_0 z
          rw [this];exact Option.some.inj h4'
        · exact Option.some.inj h4'
        · exact Option.some.inj h4'
        · exact Option.some.inj h4'
      have he : ((((p.1).toNat : Nat) : Int)=IntKind.u8.wrap (shR .u32 z ((8 * i : Nat) : Int)))=(p.1=p.2):=by
        rw [eq_iff_iff,← hq]
        have hb:=Gk (shR .u32 z ((8 * i : Nat) : Int))
        have hw8 : IntKind.u8.wrap (shR .u32 z ((8 * i : Nat) : Int))=(shR .u32 z ((8 * i : Nat) : Int)) % 256:=by simp [IntKind.wrap,IntKind.signed,IntKind.bits]
        rw [hw8,← hb]
        constructor
        · intro h;exact UInt8.toNat_inj.1 (by omega)
        · intro h;rw [h]
      simp only [Hc,hi4,hw,wi,hr,w64_8 hi4,chk,c2,he,if_true,decide_true,cond_true,Option.bind_some]
      by_cases e : p.1=p.2
      · simp [e,Zdk]
      · simp [e,Za3]) (by rw [List.length_zip,hd,l4];simp [Hc])
    rw [firstE_zip] at hL
    have hopen : Zgh b ↔ b.drop (b.length - 4)=Zgb z:=by
      constructor
      · intro h;rw [h.2,hz];rfl
      · intro h;exact⟨by omega,by rw [h,hz];rfl⟩
    by_cases ho : Zgh b
    · rw [if_pos ((Zh8 (by rw [hd,l4])).2 (hopen.1 ho))] at hL
      simp only [Zac,h4,hw,Int.toNat_natCast,chk,c1,and_self,Zkl,hz,hL,c3,List.nil_append,ho,if_true,if_false,decide_false,cond_false,Option.bind_some]
      rfl
    · rw [if_neg (fun h=>ho (hopen.2 ((Zh8 (by rw [hd,l4])).1 h)))] at hL
      simp only [Zac,h4,hw,Int.toNat_natCast,chk,c1,and_self,Zkl,hz,hL,ho,if_true,if_false,decide_false,cond_false,Option.bind_some]
      rfl
where
  firstE_zip {ε : Type} {e : ε} {l : List (UInt8 × UInt8)} : Kf (fun (_ : Nat) (p : UInt8 × UInt8)=>if decide (p.1=p.2)=true then none else some e) 0 l=if (l.all fun p=>decide (p.1=p.2))=true then none else some e:=by
    have : ∀ (l : List (UInt8 × UInt8)) (k : Nat),Kf (fun (_ : Nat) (p : UInt8 × UInt8)=>if decide (p.1=p.2)=true then none else some e) k l=if (l.all fun p=>decide (p.1=p.2))=true then none else some e:=by
      intro l
      induction l with
      | nil=>intro k;rfl
      | cons x r ih=>
        intro k
        have ih:=ih (k + 1)
        by_cases h : x.1=x.2
        · rw [Kf,if_pos (decide_eq_true h),ih,List.all_cons,decide_eq_true h,Bool.true_and]
        · rw [Kf,if_neg (by simp [h]),List.all_cons,decide_eq_false h,Bool.false_and];rfl
    exact this l 0
abbrev wR (b : List UInt8) : GR02Writer:=⟨b,⟨0,-1⟩⟩
theorem Zov (z : Int) : Zt (z % 256)=Zt z:=UInt8.toNat_inj.1 (by have h1:=Gk (z % 256);have h2:=Gk z;omega)
theorem Zgm (n k : Nat) (hk : k ≤ 4) (hn : n ≤ 4294967295) : Vq (n : Int) (k : Int)=some (be (n : Int) k):=by
  have c1 : (0 : Int) ≤ (k : Int):=by omega
  have c2 : (Int.toNat (k : Int)) * 1 ≤ 140737488355328:=by rw [Int.toNat_natCast];omega
  have w0 : IntKind.i64.wrap ((k : Int) - 1)=(k : Int) - 1:=Qb ⟨by omega,by omega⟩
  have key : ∀ j m,j + m=k → Vj Wr (((n / 256 ^ m : Nat) : Int),List.replicate j (Zt 0) ++ be (n : Int) m,(j : Int) - 1)=some (be (n : Int) k):=by
    intro j
    induction j with
    | zero=>
      intro m hm
      obtain rfl : m=k:=by omega
      exact Ka (by simp [Wr])
    | succ j ih=>
      intro m hm
      have e0 : ((j + 1 : Nat) : Int) - 1=(j : Int):=by omega
      have hlt : (0 : Int) ≤ (j : Int):=by omega
      have hl : j < (List.replicate (j + 1) (Zt 0) ++ be (n : Int) m).length:=by simp;omega
      have hr : ∃ x,rdI (List.replicate (j + 1) (Zt 0) ++ be (n : Int) m) (j : Int)=some x:=⟨_,by unfold rdI;rw [if_pos hlt,Int.toNat_natCast,List.getElem?_eq_getElem hl]⟩
      obtain⟨x,hr⟩:=hr
      have w1 : IntKind.i64.wrap ((j : Int) - 1)=(j : Int) - 1:=Qb ⟨by omega,by omega⟩
      have d1 : Int.tdiv ((n / 256 ^ m : Nat) : Int) 256=((n / 256 ^ (m + 1) : Nat) : Int):=by
        rw [show Int.tdiv ((n / 256 ^ m : Nat) : Int) 256=((n / 256 ^ m / 256 : Nat) : Int) from rfl,Nat.div_div_eq_div_mul,Nat.pow_succ]
      have d2 : Zt (Int.tmod ((n / 256 ^ m : Nat) : Int) 256)=Zt (shR .i64 (n : Int) ((8 * m : Nat) : Int)):=by
        rw [Zlu _ _ (by omega),Nat.pow_mul]
        show Zt (((n / 256 ^ m : Nat) : Int) % 256)=Zt ((n / 256 ^ m : Nat) : Int)
        exact Zov _
      have hset : (List.replicate (j + 1) (Zt 0) ++ be (n : Int) m).set j (Zt (shR .i64 (n : Int) ((8 * m : Nat) : Int)))=List.replicate j (Zt 0) ++ be (n : Int) (m + 1):=by
        rw [List.replicate_succ',List.append_assoc,List.set_append_right _ _ (by simp),List.length_replicate,Nat.sub_self,List.singleton_append,List.set_cons_zero]
        rfl
      have hle : n / 256 ^ (m + 1) ≤ n:=Nat.div_le_self _ _
      have wd : IntKind.i64.wrap ((n / 256 ^ (m + 1) : Nat) : Int)=((n / 256 ^ (m + 1) : Nat) : Int):=by
        generalize n / 256 ^ (m + 1)=z at hle
        exact Qb ⟨by omega,by omega⟩
      rw [e0,Xi (s':=(((n / 256 ^ (m + 1) : Nat) : Int),List.replicate j (Zt 0) ++ be (n : Int) (m + 1),(j : Int) - 1)) (by simp only [Wr,hlt,hr,d1,d2,wd,w1,Int.toNat_natCast,hset,decide_true,cond_true,Option.bind_some])]
      exact ih (m + 1) (by omega)
  have h:=key k 0 (by omega)
  rw [Nat.pow_zero,Nat.div_one,be,List.append_nil] at h
  rw [Int.toNat_natCast] at c2
  simp only [Vq,chk,c1,Int.toNat_natCast,c2,if_true,w0,h,Option.bind_some]
theorem Zq3 (a b : List UInt8) (h : a.length + b.length ≤ 100000000) : Jb (wR a) b 0=some (wR (a ++ b)):=by
  have c : (a.length + b.length) * 1 ≤ 140737488355328:=by omega
  simp only [Jb,chk,c,if_true,decide_true,Bool.not_true,cond_false]
theorem Zn3 {n : Int} {k : Nat} {m : Int} (hm : Ga (k : Int)=some m) (a : List UInt8) (hk : k ≤ 4) (ha : a.length ≤ 900000) (h0 : 0 ≤ n) (h1 : n ≤ m) (h2 : m ≤ 4294967295) : Xd (wR a) n (k : Int)=some (wR (a ++ be n k)):=by
  obtain⟨j,rfl⟩:=Int.eq_ofNat_of_zero_le h0
  have e1 : ¬ (j : Int) < 0:=by omega
  have e2 : ¬ m < (j : Int):=by omega
  have hN:=Zgm j k hk (by omega)
  have hp:=Zq3 a (be (j : Int) k) (by rw [Xg];omega)
  simp only [Xd,Ud,e1,e2,hm,hN,hp,decide_false,cond_false,Option.bind_some]
theorem Vu {t : Int} (h0 : 0 ≤ t) (h1 : t ≤ 255) : be t 1=[Zt t]:=by
  have hs : shR .i64 t ((8 * 0 : Nat) : Int)=t:=by unfold shR;simp
  show [Zt (shR .i64 t ((8 * 0 : Nat) : Int))]=_
  rw [hs]
theorem Zl3 {t : Int} (a b : List UInt8) (ha : a.length ≤ 500000) (h0 : 1 ≤ t) (h1 : t ≤ 255) (hb : b.length ≤ 65535) : Xm (wR a) t b=some (wR (a ++ Tz t b)):=by
  have e1 : ¬ t < 1:=by omega
  have e2 : ¬ 255 < t:=by omega
  have e3 : ¬ 65535 < b.length:=by omega
  have hN : Vq ((b.length : Nat) : Int) 2=some (be ((b.length : Nat) : Int) 2):=Zgm b.length 2 (by omega) (by omega)
  have c1 : ([(Zt t)].length + (be ((b.length : Nat) : Int) 2).length) * 1 ≤ 140737488355328:=by rw [Xg];simp
  have c2 : (([(Zt t)] ++ be ((b.length : Nat) : Int) 2).length + b.length) * 1 ≤ 140737488355328:=by simp [Xg];omega
  have hp:=Zq3 a (([(Zt t)] ++ be ((b.length : Nat) : Int) 2) ++ b) (by simp [Xg];omega)
  have er : [(Zt t)] ++ be ((b.length : Nat) : Int) 2 ++ b=Tz t b:=by rw [Tz,Vu (by omega) h1,List.append_assoc]
  simp only [Xm,e1,e2,e3,hN,chk,c1,c2,hp,if_true,decide_false,Bool.or_false,cond_false,Option.bind_some]
  rw [er]
theorem Zti (a b : List UInt8) (h : a.length + b.length ≤ 100000000) : Vm (wR a) b=some (wR (a ++ b)):=by
  simp only [Vm,Zq3 a b h,Option.bind_some]
theorem Zid {α : Type} {L : Nat × List UInt8 × GR02Err → Option ((Nat × List UInt8 × GR02Err) ⊕ (List UInt8 × GR02Err))} {l : List α} {f : α → List UInt8} (B M : Nat)
    (h : ∀ i x a,i < l.length → l[i]? = some x → a.length ≤ M → L (i,a,⟨0,-1⟩)=some (.inl (i + 1,a ++ f x,⟨0,-1⟩))) (h2 : ∀ a,L (l.length,a,⟨0,-1⟩)=some (.inr (a,⟨0,-1⟩)))
    (hB : ∀ x ∈ l,(f x).length ≤ B) (a : List UInt8) (ha : a.length + l.length * B ≤ M) : Vj L (0,a,⟨0,-1⟩)=some (a ++ l.flatMap f,⟨0,-1⟩):=by
  have key : ∀ m k a,k + m=l.length → a.length + m * B ≤ M → Vj L (k,a,⟨0,-1⟩)=some (a ++ (l.drop k).flatMap f,⟨0,-1⟩):=by
    intro m
    induction m with
    | zero=>
      intro k a hk _
      obtain rfl : k=l.length:=by omega
      rw [Ka (h2 a),List.drop_length];simp
    | succ m ih=>
      intro k a hk ha
      have hlt : k < l.length:=by omega
      have hx : l[k]? = some l[k]:=List.getElem?_eq_getElem hlt
      have hd : l.drop k=l[k] :: l.drop (k + 1):=List.drop_eq_getElem_cons hlt
      have hb:=hB l[k] (List.getElem_mem hlt)
      rw [Nat.succ_mul] at ha
      rw [Xi (h k _ a hlt hx (by omega)),ih (k + 1) _ (by omega) (by rw [List.length_append];omega),hd,List.flatMap_cons,List.append_assoc]
  simpa using key l.length 0 a (by omega) ha
theorem Zq4 (b : Bool) : Zcx b=some (if b=true then 1 else 0):=by cases b <;> rfl
theorem Zsz {p : GPlan} (ok : OkK p) : Zcy p=some (be p.Id 4 ++ (Zds p.Mobile ++ Kx p)):=by
  have e0 : Zcw=some (wR []):=rfl
  have m4 : Ga ((4 : Nat) : Int)=some 4294967295:=rfl
  have m1 : Ga ((1 : Nat) : Int)=some 255:=rfl
  have i0:=ok.id0;have i1:=ok.id1
  have n1 : Xd (wR []) p.Id 4=some (wR ([] ++ be p.Id 4)):=Zn3 (k:=4) m4 [] (by omega) (by simp) i0 (by omega) (by decide)
  have n2 : Xd (wR ([] ++ be p.Id 4)) (if p.Mobile=true then 1 else 0) 1=some (wR ([] ++ be p.Id 4 ++ be (if p.Mobile=true then 1 else 0) 1)):=Zn3 (k:=1) m1 _ (by omega) (by simp [Xg]) (by split <;> decide) (by split <;> decide) (by decide)
  rw [← Znw] at n2
  have b1 : ∀ x ∈ p.Pages,(Tz 1 (Hn x)).length ≤ 68:=fun x hx=>by have:=ok.pag x hx;rw [Um,Zbw];omega
  have b2 : ∀ x ∈ p.Procs,(Tz 2 (Ty x)).length ≤ 9:=fun x hx=>by rw [Um,Zbx];omega
  have b3 : ∀ x ∈ p.Ports,(Tz 3 (Zas x)).length ≤ 7:=fun x hx=>by rw [Um,Zby];omega
  have b5 : ∀ x ∈ p.Sems,(Zfa x).length ≤ 1:=fun x hx=>by rw [Zfa,Xg];omega
  have l1:=Wg b1
  have l2:=Wg b2
  have l3:=Wg b3
  have l5:=Wg b5
  have k1:=ok.pg1;have k2:=ok.pr1;have k3:=ok.po1;have k5:=ok.se1
  generalize hw : [] ++ be p.Id 4 ++ Zds p.Mobile=w at n2
  have lw : w.length=5:=by rw [← hw];simp [Xg,Zfz]
  have hA:=Zid (L:=Hb p) (l:=p.Pages) (f:=fun x=>Tz 1 (Hn x)) 68 10000 (fun i x a hi hx ha=>by
    have hb:=ok.pag x (List.mem_of_getElem? hx)
    have hsz : x.Init.data.toList.length=x.Init.size:=rfl
    have c1 : ([(Zt x.Rights)].length + x.Init.data.toList.length) * 1 ≤ 140737488355328:=by rw [hsz];simp only [List.length_cons,List.length_nil];omega
    have ep : [(Zt x.Rights)] ++ x.Init.data.toList=Hn x:=by rw [Hn,Vu hb.1 (by omega)]
    have hr:=Zl3 (t:=1) a (Hn x) (by omega) (by decide) (by decide) (by rw [Zbw];omega)
    simp only [Hb,hi,hx,chk,c1,ep,hr,if_true,decide_true,cond_true,Option.bind_some]) (fun a=>by simp [Hb]) b1 w (by omega)
  have hB:=Zid (L:=Ha p) (l:=p.Procs) (f:=fun x=>Tz 2 (Ty x)) 9 10000 (fun i x a hi hx ha=>by
    obtain⟨h1,h2,h3,h4,_⟩:=ok.prio x (List.mem_of_getElem? hx)
    obtain⟨j,hj⟩:=Int.eq_ofNat_of_zero_le h3
    have hN : Vq x.Entry 4=some (be x.Entry 4):=by
      have:=Zgm j 4 (by omega) (by omega)
      rw [hj];exact this
    have ef : [Zt (if x.Auto=true then 1 else 0)]=Zds x.Auto:=by cases x.Auto <;> rfl
    have c1 : ((be x.Entry 4).length + [(Zt x.Prio),(Zt (if x.Auto=true then (1 : Int) else 0))].length) * 1 ≤ 140737488355328:=by rw [Xg];simp
    have ep : be x.Entry 4 ++ [(Zt x.Prio),(Zt (if x.Auto=true then (1 : Int) else 0))]=Ty x:=by rw [Ty,Vu h1 h2,← ef];rfl
    have hr:=Zl3 (t:=2) a (Ty x) (by omega) (by decide) (by decide) (by rw [Zbx];omega)
    simp only [Ha,hi,hx,hN,Zq4,chk,c1,ep,hr,if_true,decide_true,cond_true,Option.bind_some]) (fun a=>by simp [Ha]) b2 (w ++ p.Pages.flatMap (fun x=>Tz 1 (Hn x))) (by rw [List.length_append];omega)
  have hC:=Zid (L:=Gz p) (l:=p.Ports) (f:=fun x=>Tz 3 (Zas x)) 7 10000 (fun i x a hi hx ha=>by
    obtain⟨_,h1,h2,h3,h4,h5,h6,h7,h8⟩:=ok.dep x (List.mem_of_getElem? hx)
    have ep : [(Zt x.Kind),(Zt x.Size),(Zt x.Depth),(Zt x.Refresh)]=Zas x:=by rw [Zas,Vu (by omega) (by omega),Vu (by omega) (by omega),Vu (by omega) (by omega),Vu (by omega) (by omega)];rfl
    have hr:=Zl3 (t:=3) a (Zas x) (by omega) (by decide) (by decide) (by rw [Zby];omega)
    simp only [Gz,hi,hx,ep,hr,decide_true,cond_true,Option.bind_some]) (fun a=>by simp [Gz]) b3 (w ++ p.Pages.flatMap (fun x=>Tz 1 (Hn x)) ++ p.Procs.flatMap (fun x=>Tz 2 (Ty x))) (by rw [List.length_append,List.length_append];omega)
  have d1:=Zl3 (t:=4) (w ++ p.Pages.flatMap (fun x=>Tz 1 (Hn x)) ++ p.Procs.flatMap (fun x=>Tz 2 (Ty x)) ++ p.Ports.flatMap (fun x=>Tz 3 (Zas x))) (be p.Events 1) (by simp only [List.length_append];omega) (by decide) (by decide) (by rw [Xg];omega)
  rw [Vu ok.ev0 (by have:=ok.ev1;omega)] at d1
  have hS : Vj (Ue p) ([],0)=some (p.Sems.flatMap Zfa):=by
    have hL:=Zc5 (L:=Ue p) (fun t : List UInt8 × Nat=>t.2 ≤ p.Sems.length ∧ t.1=(p.Sems.take t.2).flatMap Zfa) (fun r=>r=p.Sems.flatMap Zfa) (fun t=>p.Sems.length - t.2) (fun t hI=>by
      obtain⟨l,i⟩:=t
      obtain⟨hi,h1⟩:=hI
      simp only at hi h1
      by_cases hlt : i < p.Sems.length
      · have hx : p.Sems[i]? = some p.Sems[i]:=List.getElem?_eq_getElem hlt
        have hm:=ok.sem _ (List.getElem_mem hlt)
        generalize p.Sems[i]=x at hx hm
        have hl1 : l.length ≤ 8:=by
          have:=Wg (l:=p.Sems.take i) (f:=Zfa) (B:=1) fun x hx=>by rw [Zfa,Xg];omega
          rw [h1];rw [List.length_take] at this;omega
        have c1 : (l.length + [(Zt x)].length) * 1 ≤ 140737488355328:=by simp only [List.length_cons,List.length_nil];omega
        refine .inl ⟨(l ++ [Zt x],i + 1),?_,⟨by simp only;omega,?_⟩,by simp only;omega⟩
        · simp only [Ue,hlt,hx,chk,c1,if_true,decide_true,cond_true,Option.bind_some]
        · simp only
          rw [Zfw hx,List.flatMap_append,h1,List.flatMap_cons,List.flatMap_nil,List.append_nil,Zfa,Vu hm.1 hm.2]
      · refine .inr ⟨l,?_,?_⟩
        · simp only [Ue,hlt,decide_false,cond_false]
        · rw [h1,List.take_of_length_le (by omega)]) (s:=([],0)) ⟨Nat.zero_le _,rfl⟩
    obtain⟨_,hL,rfl⟩:=hL
    exact hL
  have d2:=Zl3 (t:=5) (w ++ p.Pages.flatMap (fun x=>Tz 1 (Hn x)) ++ p.Procs.flatMap (fun x=>Tz 2 (Ty x)) ++ p.Ports.flatMap (fun x=>Tz 3 (Zas x)) ++ Tz 4 [Zt p.Events]) (p.Sems.flatMap Zfa) (by simp only [List.length_append,Um,List.length_cons,List.length_nil];omega) (by decide) (by decide) (by omega)
  simp only [Zcy,e0,n1,Zq4,n2,hA,hB,hC,d1,hS,d2,Option.bind_some]
  rw [← hw,← Vu ok.ev0 (by have:=ok.ev1;omega)]
  simp only [Kx,List.append_assoc,List.nil_append]
theorem Zc9 (p : GPlan) : Ug p=some (if Hu p=.nil then (Jy p,0) else ([],8)):=by
  by_cases h : Hu p=.nil
  · have ok:=Zfx h
    have hrl:=Zat ok
    have e0 : Zcw=some (wR []):=rfl
    have m4 : Ga ((4 : Nat) : Int)=some 4294967295:=rfl
    have m2 : Ga ((2 : Nat) : Int)=some 65535:=rfl
    generalize hb : be p.Id 4 ++ (Zds p.Mobile ++ Kx p)=bd
    have lb : bd.length=5 + (Kx p).length:=by rw [← hb];simp [Xg,Zfz];omega
    have hbd:=Zsz ok
    rw [hb] at hbd
    have w1 : IntKind.i64.wrap (((bd.length : Nat) : Int) + 14)=((15 + (Kx p).length + 4 : Nat) : Int):=by rw [Qb ⟨by omega,by omega⟩];omega
    have a1:=Zti [] Jp (by simp [Jp])
    have a2 : Xd (wR ([] ++ Jp)) 1 2=some (wR ([] ++ Jp ++ be 1 2)):=Zn3 (k:=2) m2 _ (by omega) (by simp [Jp]) (by decide) (by decide) (by decide)
    have a3 : Xd (wR ([] ++ Jp ++ be 1 2)) ((15 + (Kx p).length + 4 : Nat) : Int) 4=some (wR ([] ++ Jp ++ be 1 2 ++ be ((15 + (Kx p).length + 4 : Nat) : Int) 4)):=Zn3 (k:=4) m4 _ (by omega) (by simp [Jp,Xg]) (by omega) (by omega) (by decide)
    have a4:=Zti ([] ++ Jp ++ be 1 2 ++ be ((15 + (Kx p).length + 4 : Nat) : Int) 4) bd (by simp [Jp,Xg];omega)
    have hbody : [] ++ Jp ++ be 1 2 ++ be ((15 + (Kx p).length + 4 : Nat) : Int) 4 ++ bd=Jx p:=by
      rw [← hb];simp only [Jx,Zf0,List.append_assoc,List.nil_append]
    rw [hbody] at a4
    have hsl : (Jx p).length=15 + (Kx p).length:=by rw [Jx,List.length_append,Gw]
    have a5:=Zsx (Jx p) (by omega)
    simp only [Jp] at a1 a2 a3 a4
    simp only [Ug,Znr,h,hbd,e0,a1,a2,w1,a3,a4,a5,decide_true,Bool.not_true,cond_false,Option.bind_some,if_true,Jy]
  · simp only [Ug,Znr,h,decide_false,Bool.not_false,cond_true,Option.bind_some,if_false]
theorem Zq5 (p : GPlan) : Zc1 p=some (if Hu p=.nil then (Zh4 (Jx p),0) else (0,8)):=by
  by_cases h : Hu p=.nil
  · have hrl:=Zat (Zfx h)
    have hbl : (Jx p).length=15 + (Kx p).length:=by rw [Jx,List.length_append,Gw]
    have hlen:=Zgl p
    have hw : IntKind.i64.wrap ((((Jy p).length : Nat) : Int) - 4)=(((Jx p).length : Nat) : Int):=by rw [Qb ⟨by omega,by omega⟩];omega
    have c1 : (0 : Int) ≤ (((Jx p).length : Nat) : Int) ∧ (((Jx p).length : Nat) : Int) ≤ (((Jy p).length : Nat) : Int):=⟨by omega,by omega⟩
    have ht : (Jy p).take (Jx p).length=Jx p:=by rw [Jy,List.take_left]
    simp only [Zc1,Zc9,h,hw,chk,c1,and_self,if_true,Option.bind_some,decide_true,Bool.not_true,cond_false,Int.toNat_natCast,ht,Zkl]
  · have : ¬ ((8 : Int)=0):=by decide
    simp only [Zc1,Zc9,h,if_false,Option.bind_some,this,decide_false,Bool.not_false,cond_true]
end Go.Proofs.YtfemfiiagjnhdaaGreatDoor
set_option linter.unusedVariables false
set_option linter.unusedSimpArgs false
set_option linter.unusedSectionVars false
namespace Go.Proofs.YtfemfiiagjnhdaaGreatDoor
open Go Go.RowKit
abbrev cv (c : GR02Cursor) : GWireCursor:=⟨c.B,c.At,c.End⟩
abbrev vc (c : GWireCursor) : GR02Cursor:=⟨c.b_,c.at_,c.bound_⟩
theorem Zf2 (c : GR02Cursor) : (⟨c.B,c.At,c.End⟩ : GR02Cursor)=c:=rfl
theorem Zow (c : GR02Cursor) (h : OkCur (cv c)) : Jv c=some (c.End - c.At,c):=by
  obtain⟨h1,h2,h3,h4⟩:=h
  simp only at h1 h2 h3 h4
  have e : IntKind.i64.wrap (c.End - c.At)=c.End - c.At:=Qb ⟨by omega,by omega⟩
  simp only [Jv,e]
theorem Ztj (c : GR02Cursor) (a w : Nat) (hw : w ≤ 4) (ha : a + w ≤ c.B.length) (hs : c.B.length ≤ 140737488355328) : Jk c (a : Int) (w : Int)=some (Qz (cut c.B a w),c):=by
  have e1 : IntKind.i64.wrap ((a : Int) + (w : Int))=((a + w : Nat) : Int):=by rw [Qb ⟨by omega,by omega⟩];omega
  have hl:=Zbv (b:=c.B) (a:=a) (n:=w) ha
  have key : ∀ m k,k + m=w → Vj (Ja c (a : Int) (w : Int)) (Qz ((cut c.B a w).take k),((a + k : Nat) : Int))=some (Qz (cut c.B a w)):=by
    intro m
    induction m with
    | zero=>
      intro k hk
      have e : (cut c.B a w).take k=cut c.B a w:=List.take_of_length_le (by omega)
      rw [e]
      exact Ka (by simp only [Ja,e1,show ¬ ((a + k : Nat) : Int) < ((a + w : Nat) : Int) by omega,decide_false,cond_false])
    | succ m ih=>
      intro k hk
      have hlt : ((a + k : Nat) : Int) < ((a + w : Nat) : Int):=by omega
      have hk' : k < (cut c.B a w).length:=by omega
      have hx : (cut c.B a w)[k]? = some (cut c.B a w)[k]:=List.getElem?_eq_getElem hk'
      generalize (cut c.B a w)[k]=x at hx
      have hx' : c.B[a + k]? = some x:=by
        rw [cut,List.getElem?_take,if_pos (by omega),List.getElem?_drop] at hx
        exact hx
      have hr : rdI c.B ((a + k : Nat) : Int)=some x:=by unfold rdI;rw [if_pos (by omega),Int.toNat_natCast,hx']
      obtain⟨b0,b1⟩:=Zdf k ((cut c.B a w).take k) (by rw [List.length_take];omega)
      have hb : Qz ((cut c.B a w).take k) < 16777216:=by
        have : (256 : Int) ^ k ≤ 256 ^ 3:=by
          rcases (by omega : k=0 ∨ k=1 ∨ k=2 ∨ k=3) with rfl|rfl|rfl|rfl <;> decide
        have h3 : (256 : Int) ^ 3=16777216:=by decide
        omega
      have hcx:=x.toNat_lt
      have es : Qz ((cut c.B a w).take (k + 1))=Qz ((cut c.B a w).take k) * 256 + ((x.toNat : Nat) : Int):=by rw [List.take_add_one,hx];exact Zf8 _ _
      have w1 : IntKind.i64.wrap (Qz ((cut c.B a w).take k) * 256)=Qz ((cut c.B a w).take k) * 256:=Qb ⟨by omega,by omega⟩
      have w2 : IntKind.i64.wrap (Qz ((cut c.B a w).take k) * 256 + ((x.toNat : Nat) : Int))=Qz ((cut c.B a w).take (k + 1)):=by rw [es];exact Qb ⟨by omega,by omega⟩
      have w3 : IntKind.i64.wrap (((a + k : Nat) : Int) + 1)=((a + (k + 1) : Nat) : Int):=by rw [Qb ⟨by omega,by omega⟩];omega
      rw [Xi (s':=(Qz ((cut c.B a w).take (k + 1)),((a + (k + 1) : Nat) : Int))) (by simp only [Ja,e1,hlt,hr,w1,w2,w3,decide_true,cond_true,Option.bind_some])]
      exact ih (k + 1) (by omega)
  have h:=key w 0 (by omega)
  rw [List.take_zero,Nat.add_zero] at h
  have h' : Vj (Ja c (a : Int) (w : Int)) (0,(a : Int))=some (Qz (cut c.B a w)):=h
  simp only [Jk,h',Option.bind_some]
theorem Zn4 (c : GR02Cursor) (h : OkCur (cv c)) (hl : 4 ≤ c.End - c.At) : Kw c 4 0 4294967295=some (Qz (cut c.B c.At.toNat 4),⟨0,-1⟩,⟨c.B,c.At + 4,c.End⟩):=by
  have ok:=h
  obtain⟨h1,h2,h3,h4⟩:=h
  simp only at h1 h2 h3 h4
  have em : Ga 4=some 4294967295:=rfl
  have en : Uz=some ⟨0,-1⟩:=rfl
  have e0 : ¬ (4294967295 : Int) < 0:=by decide
  have e1 : ¬ c.End - c.At < 4:=by omega
  have hv:=Ztj c c.At.toNat 4 (by omega) (by omega) h4
  rw [Int.toNat_of_nonneg h1] at hv
  have hv' : Jk c c.At 4=some (Qz (cut c.B c.At.toNat 4),c):=hv
  have hlen:=Zbv (b:=c.B) (a:=c.At.toNat) (n:=4) (by omega)
  obtain⟨b0,b1⟩:=Zdf 4 _ hlen
  have h256 : (256 : Int) ^ 4=4294967296:=by decide
  have e2 : ¬ Qz (cut c.B c.At.toNat 4) < 0:=by omega
  have e3 : ¬ 4294967295 < Qz (cut c.B c.At.toNat 4):=by omega
  have w : IntKind.i64.wrap (c.At + 4)=c.At + 4:=Qb ⟨by omega,by omega⟩
  simp only [Zf2,Kw,em,en,e0,e1,e2,e3,Zow c ok,hv',w,decide_false,Bool.or_false,cond_false,Option.bind_some]
theorem dNext (c : GR02Cursor) (h : OkCur (cv c)) : ∃ e : GR02Err,Jw c=some ((Ge (cv c)).1,(Ge (cv c)).2.1.map vc,e,vc (Ge (cv c)).2.2.2) ∧ (e.Code=0 ↔ (Ge (cv c)).2.2.1=.nil):=by
  have ok:=h
  obtain⟨h1,h2,h3,h4⟩:=h
  simp only at h1 h2 h3 h4
  have en : Uz=some ⟨0,-1⟩:=rfl
  unfold Ge
  simp only
  by_cases c1 : c.End - c.At < 3
  · refine⟨⟨1,c.At⟩,?_,?_⟩
    · simp only [Zf2,Jw,Jr,Zow c ok,c1,decide_true,cond_true,Option.bind_some,if_true]
      rfl
    · simp only [c1,if_true];simp
  · have hl1:=Zbv (b:=c.B) (a:=c.At.toNat) (n:=1) (by omega)
    obtain⟨x,hx⟩ : ∃ x,c.B[c.At.toNat]? = some x:=⟨_,List.getElem?_eq_getElem (by omega)⟩
    have hr : rdI c.B c.At=some x:=by unfold rdI;rw [if_pos h1,hx]
    have hcut : cut c.B c.At.toNat 1=[x]:=by
      rw [cut,List.take_one,List.head?_drop,hx];rfl
    have hb : Qz (cut c.B c.At.toNat 1)=((x.toNat : Nat) : Int):=by rw [hcut];simp [Qz]
    have w1 : IntKind.i64.wrap (c.At + 1)=((c.At.toNat + 1 : Nat) : Int):=by rw [Qb ⟨by omega,by omega⟩];omega
    have w1' : IntKind.i64.wrap (c.At + 1)=c.At + 1:=Qb ⟨by omega,by omega⟩
    have hv:=Ztj c (c.At.toNat + 1) 2 (by omega) (by omega) h4
    rw [← w1] at hv
    have hv' : Jk c (IntKind.i64.wrap (c.At + 1)) 2=some (Qz (cut c.B (c.At.toNat + 1) 2),c):=hv
    have hn:=Znu (Zi9 c.B (c.At.toNat + 1) 2)
    have w3 : IntKind.i64.wrap (c.End - c.At - 3)=c.End - c.At - 3:=Qb ⟨by omega,by omega⟩
    rw [hb]
    by_cases c2 : ((x.toNat : Nat) : Int)=0
    · refine⟨⟨3,c.At⟩,?_,?_⟩
      · simp only [Zf2,Jw,Jr,Zow c ok,c1,hr,c2,decide_true,decide_false,Bool.and_true,Bool.true_or,cond_true,cond_false,Option.bind_some,if_true,if_false]
        rfl
      · simp only [c1,c2,if_true,if_false];simp
    · generalize hnn : Qz (cut c.B (c.At.toNat + 1) 2)=n at hv' hn
      by_cases c3 : c.End - c.At - 3 < n
      · refine⟨⟨5,c.At + 1⟩,?_,?_⟩
        · simp only [Zf2,Jw,Jr,Zow c ok,c1,hr,c2,hv',w3,c3,decide_true,decide_false,Bool.and_false,Bool.not_true,Bool.false_and,Bool.or_false,cond_true,cond_false,Option.bind_some,if_true,if_false]
          rw [w1']
          rfl
        · simp only [c1,c2,c3,if_true,if_false];simp
      · have w4 : IntKind.i64.wrap (c.At + 3)=c.At + 3:=Qb ⟨by omega,by omega⟩
        have w5 : IntKind.i64.wrap (c.At + 3 + n)=c.At + 3 + n:=Qb ⟨by omega,by omega⟩
        have w6 : IntKind.i64.wrap (3 + n)=3 + n:=Qb ⟨by omega,by omega⟩
        have w7 : IntKind.i64.wrap (c.At + (3 + n))=c.At + 3 + n:=by rw [Qb ⟨by omega,by omega⟩];omega
        refine⟨⟨0,-1⟩,?_,?_⟩
        · simp only [Zf2,Jw,Jr,en,Zow c ok,c1,hr,c2,hv',w3,w4,w5,w6,w7,c3,decide_false,Bool.and_false,Bool.not_true,Bool.false_and,Bool.or_false,cond_false,Option.bind_some,if_false,Option.map_some]
        · simp only [c1,c2,c3,if_false]
def wt (l : List GR02Rec) : Nat:=(l.map fun r=>r.Body.length + 1).sum
theorem wt_app (l m : List GR02Rec) : wt (l ++ m)=wt l + wt m:=by simp [wt]
theorem cut_at {b : List UInt8} {x : GWireCursor} (h0 : 0 ≤ x.at_) (h1 : x.at_ ≤ x.bound_) : (b.drop x.at_.toNat).take (x.bound_.toNat - x.at_.toNat)=cut b x.at_.toNat (x.bound_ - x.at_).toNat:=by
  rw [cut,show (x.bound_ - x.at_).toNat=x.bound_.toNat - x.at_.toNat by omega]
abbrev Zox (l : List GR02Rec) (c : GWireCursor) : List GR02Rec × Int × Int:=(l,c.at_,c.bound_)
theorem Zkm {b : List UInt8} {r : GR02Cursor} (hr : r.B=b) (hb : b.length ≤ 8589934592) {l : List GR02Rec} {c : GWireCursor} (h : OkCur c) (hc : c.b_=b) (hl : (l.length : Int) ≤ c.at_) :
    (¬ 0 < c.bound_ - c.at_ → Jc b r (Zox l c)=some (.inr (.inl l))) ∧
    (0 < c.bound_ - c.at_ → (Ge c).2.2.1 ≠ .nil → ∃ e : GR02Err,e.Code ≠ 0 ∧ Jc b r (Zox l c)=some (.inr (.inr ([],e)))) ∧
    (0 < c.bound_ - c.at_ → ∀ d,(Ge c).2.1=some d → (Ge c).2.2.1=.nil → Jc b r (Zox l c)=some (.inl (Zox (l ++ [⟨(Ge c).1,cut b d.at_.toNat (d.bound_ - d.at_).toNat⟩]) (Ge c).2.2.2))):=by
  have ev : (⟨r.B,c.at_,c.bound_⟩ : GR02Cursor)=vc c:=by rw [hr,← hc]
  have ok : OkCur (cv (vc c)):=h
  obtain⟨e,hn,he⟩:=dNext (vc c) ok
  have hcv : cv (vc c)=c:=rfl
  rw [hcv] at hn he
  have hle:=Zow (vc c) ok
  simp only at hle
  refine⟨fun h0=>?_,fun h0 hne=>⟨e,fun h=>hne (he.1 h),?_⟩,fun h0 d hd hnil=>?_⟩
  · simp only [Zox,Jc,ev,hle,h0,decide_false,cond_false,Option.bind_some]
  · have : ¬ e.Code=0:=fun h=>hne (he.1 h)
    simp only [Zox,Jc,ev,hle,h0,hn,this,decide_true,decide_false,Bool.not_false,cond_true,Option.bind_some]
  · obtain⟨n1,n2,n3,n4,n5⟩:=Zkd h
    obtain⟨d1,d2,d3,d4⟩:=n4 d hd
    have k1:=d1.a0;have k2:=d1.ab;have k3:=d1.bl
    rw [d2,hc] at k3
    have c1 : 0 ≤ d.at_ ∧ d.at_ ≤ d.bound_ ∧ d.bound_ ≤ ((b.length : Nat) : Int):=⟨k1,k2,k3⟩
    have hcl:=Zbv (b:=b) (a:=d.at_.toNat) (n:=(d.bound_ - d.at_).toNat) (by omega)
    have c2 : (([] : List UInt8).length + (cut b d.at_.toNat (d.bound_ - d.at_).toNat).length) * 1 ≤ 140737488355328:=by rw [hcl];simp only [List.length_nil];omega
    have hb':=h.bl;have hb2:=h.ab
    rw [hc] at hb'
    have c3 : (l.length + 1) * 32 ≤ 140737488355328:=by omega
    have h00 : e.Code=0:=he.2 hnil
    simp only [Zox,Jc,ev,hle,h0,hn,hd,h00,Option.map_some,decide_true,Bool.not_true,cond_true,cond_false,Option.bind_some,chk,c1,and_self,cut_at k1 k2,c2,c3,if_true,List.nil_append]
theorem Zq6 (b : List UInt8) (hb : b.length ≤ 4294967296) : ∃ l e,Ui b=some (l,e) ∧ (wt l : Int) ≤ b.length:=by
  have ok0:=Zl1 b (by omega)
  have hO : Gb b=some ⟨b,0,((b.length : Nat) : Int)⟩:=by
    have c : (([] : List UInt8).length + b.length) * 1 ≤ 140737488355328:=by simp only [List.length_nil];omega
    simp only [Gb,chk,c,if_true,List.nil_append]
  have en : Uz=some ⟨0,-1⟩:=rfl
  have hlw : ∀ l : List GR02Rec,l.length ≤ wt l:=fun l=>by
    induction l with
    | nil=>simp [wt]
    | cons x r ih=>simp only [wt,List.map_cons,List.sum_cons,List.length_cons] at *;omega
  have key:=Zc5 (L:=Jc b ⟨b,0,((b.length : Nat) : Int)⟩) (fun s=>∃ l c,s=Zox l c ∧ OkCur c ∧ c.b_=b ∧ (wt l : Int) ≤ c.at_)
    (fun o=>match o with | .inl l=>(wt l : Int) ≤ b.length | .inr p=>p.1=[]) (fun s=>(s.2.2 - s.2.1).toNat) (fun s hI=>by
    obtain⟨l,c,rfl,h,hc,hl⟩:=hI
    have hw:=hlw l
    obtain⟨s1,s2,s3⟩:=Zkm (b:=b) (r:=⟨b,0,((b.length : Nat) : Int)⟩) rfl (by omega) h hc (l:=l) (by omega)
    have kb:=h.bl;have ka:=h.ab
    rw [hc] at kb
    by_cases h0 : 0 < c.bound_ - c.at_
    · by_cases hn : (Ge c).2.2.1=.nil
      · obtain⟨n1,n2,n3,n4,n5⟩:=Zkd h
        obtain⟨d,hd⟩:=n5 hn
        obtain⟨d1,d2,d3,d4⟩:=n4 d hd
        have k1:=d1.a0;have k2:=d1.ab;have k3:=d1.bl
        rw [d2,hc] at k3
        have hcl:=Zbv (b:=b) (a:=d.at_.toNat) (n:=(d.bound_ - d.at_).toNat) (by omega)
        refine .inl ⟨_,s3 h0 d hd hn,⟨_,_,rfl,n1,n2.trans hc,?_⟩,?_⟩
        · rw [wt_app]
          simp only [wt,List.map_cons,List.map_nil,List.sum_cons,List.sum_nil,hcl] at hl ⊢
          omega
        · simp only [Zox,n3];omega
      · obtain⟨e,_,he⟩:=s2 h0 hn
        exact .inr ⟨_,he,rfl⟩
    · exact .inr ⟨_,s1 h0,by simp only;omega⟩) (s:=Zox [] ⟨b,0,((b.length : Nat) : Int)⟩) ⟨[],_,rfl,ok0,rfl,by simp [wt]⟩
  obtain⟨o,h1,h2⟩:=key
  have h1' : Vj (Jc b ⟨b,0,((b.length : Nat) : Int)⟩) ([],0,((b.length : Nat) : Int))=some o:=h1
  cases o with
  | inl l=>exact⟨l,⟨0,-1⟩,by simp only [Ui,hO,h1',en,Option.bind_some],h2⟩
  | inr p=>exact⟨p.1,p.2,by simp only [Ui,hO,h1',Option.bind_some],by simp only at h2;rw [h2];simp [wt]⟩
abbrev RItem:=Int × List UInt8
theorem Zie {b : List UInt8} (hb : b.length ≤ 8589934592) : ∀ (its : List RItem) (l : List GR02Rec) (c : GWireCursor),(∀ i ∈ its,1 ≤ i.1 ∧ i.1 ≤ 255 ∧ i.2.length ≤ 65535) → Sees c (its.flatMap fun i=>Tz i.1 i.2) → c.b_=b → (l.length : Int) ≤ c.at_ →
    Vj (Jc b ⟨b,0,((b.length : Nat) : Int)⟩) (Zox l c)=some (.inl (l ++ its.map fun i=>⟨i.1,i.2⟩))
  | [],l,c,_,hs,hc,hl=>by
    have hle:=hs.left
    rw [List.map_nil,List.append_nil]
    exact Ka ((Zkm rfl hb hs.ok hc hl).1 (by rw [hle];simp))
  | i :: its,l,c,hI,hs,hc,hl=>by
    obtain⟨t0,t1,hlen⟩:=hI i (List.mem_cons_self ..)
    rw [List.flatMap_cons] at hs
    have hle:=hs.left
    rw [List.length_append,Um] at hle
    obtain⟨d,hn,sd,hdb,sc⟩:=hs.next t0 t1 hlen
    have h3:=(Zkm (b:=b) (r:=⟨b,0,((b.length : Nat) : Int)⟩) rfl hb hs.ok hc hl).2.2 (by omega) d (by rw [hn]) (by rw [hn])
    rw [hn] at h3
    have hbody : cut b d.at_.toNat (d.bound_ - d.at_).toNat=i.2:=by rw [← hc,← hdb];exact sd.eq
    simp only [hbody] at h3
    rw [Xi h3]
    have:=Zie hb its (l ++ [⟨i.1,i.2⟩]) _ (fun j hj=>hI j (List.mem_cons_of_mem _ hj)) sc hc (by rw [List.length_append];simp only [List.length_cons,List.length_nil];omega)
    rw [this,List.map_cons,List.append_assoc]
    rfl
end Go.Proofs.YtfemfiiagjnhdaaGreatDoor
