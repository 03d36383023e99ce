/- Part of a claim, shortened by a program from its texts: PlanLPt, WireLPt, CurLPt, PlanKPt, SeeLPt, SameKPt, CrcLPt, ReadLPt, BurstLPt. -/
import Derived.Test.YtfemfiiagjnhdaaGreatDoorQuD
set_option linter.unusedVariables false
set_option linter.unusedSimpArgs false
set_option linter.unusedSectionVars false
namespace Go.Proofs.YtfemfiiagjnhdaaGreatDoor
open Go Go.RowKit
section
variable {α ε σ ρ : Type}
def Jw (f : Nat → α → Option ε) : Nat → List α → Option ε
  | _,[]=>none
  | k,x :: r=>match f k x with
    | some e=>some e
    | none=>Jw f (k + 1) r
theorem Zan {ε' : Type} {f : Nat → α → Option ε} {g : Nat → α → Option ε'} {m : ε → ε'} : ∀ (l : List α) (k : Nat),(∀ i x,l[i]? = some x → g (k + i) x=(f (k + i) x).map m) → Jw g k l=(Jw f k l).map m
  | [],_,_=>rfl
  | x :: r,k,h=>by
    have h0 : g k x=(f k x).map m:=h 0 x rfl
    have h1:=Zan (m:=m) r (k + 1) fun i y hy=>(show k + (i + 1)=k + 1 + i by omega) ▸ h (i + 1) y (by simpa using hy)
    rw [Jw,Jw,h0,h1]
    cases f k x <;> rfl
def fin (o : Option ε) : Unit ⊕ ε:=match o with
  | none=>.inl ()
  | some e=>.inr e
def nxt (s : σ) (o : Option ε) : σ ⊕ (Unit ⊕ ε):=match o with
  | none=>.inl s
  | some e=>.inr (.inr e)
theorem Tt (s : σ) (e : ε) : nxt s (some e)=.inr (.inr e):=rfl
theorem Zbh (s : σ) : nxt s (none : Option ε)=.inl s:=rfl
theorem Zgj (s : σ) (c : Prop) [Decidable c] (a b : Option ε) : nxt s (if c then a else b)=if c then nxt s a else nxt s b:=by split <;> rfl
theorem Wx {L : Nat → Option (Nat ⊕ (Unit ⊕ ε))} {l : List α} {f : Nat → α → Option ε}
    (h : ∀ i x,i < l.length → l[i]? = some x → L i=some (nxt (i + 1) (f i x))) (h2 : L l.length=some (.inr (.inl ()))) :
    Uj L 0=some (fin (Jw f 0 l)):=by
  have key : ∀ m k,k + m=l.length → Uj L k=some (fin (Jw f k (l.drop k))):=by
    intro m
    induction m with
    | zero=>
      intro k hk
      obtain rfl : k=l.length:=by omega
      rw [Wz h2,List.drop_length];rfl
    | succ m ih=>
      intro k hk
      have hlt : k < l.length:=by omega
      have hx : l[k]? = some l[k]:=List.getElem?_eq_getElem hlt
      have hd : l.drop k=l[k] :: l.drop (k + 1):=List.drop_eq_getElem_cons hlt
      have hs:=h k _ hlt hx
      rw [hd]
      cases hf : f k l[k] with
      | none=>rw [hf] at hs;rw [Yd hs,ih (k + 1) (by omega),Jw,hf]
      | some e=>rw [hf] at hs;rw [Wz hs,Jw,hf];rfl
  simpa using key l.length 0 (by omega)
theorem Zel {L : σ × Nat → Option ((σ × Nat) ⊕ σ)} {l : List α} {g : σ → α → σ} {I : σ → Nat → Prop} {z : σ} (h0 : I z 0)
    (h : ∀ i x z,i < l.length → l[i]? = some x → I z i → L (z,i)=some (.inl (g z x,i + 1)) ∧ I (g z x) (i + 1)) (h2 : ∀ z,I z l.length → L (z,l.length)=some (.inr z)) :
    Uj L (z,0)=some (l.foldl g z) ∧ I (l.foldl g z) l.length:=by
  have key : ∀ m k z,k + m=l.length → I z k → Uj L (z,k)=some ((l.drop k).foldl g z) ∧ I ((l.drop k).foldl g z) l.length:=by
    intro m
    induction m with
    | zero=>
      intro k z hk hI
      obtain rfl : k=l.length:=by omega
      rw [Wz (h2 z hI),List.drop_length];exact⟨rfl,hI⟩
    | succ m ih=>
      intro k z hk hI
      have hlt : k < l.length:=by omega
      have hx : l[k]? = some l[k]:=List.getElem?_eq_getElem hlt
      have hd : l.drop k=l[k] :: l.drop (k + 1):=List.drop_eq_getElem_cons hlt
      have hs:=h k _ z hlt hx hI
      rw [hd,Yd hs.1,List.foldl_cons]
      exact ih (k + 1) _ (by omega) hs.2
  simpa using key l.length 0 z (by omega) h0
end
theorem cRange : (ErrM.v Jf).code=4:=by decide
theorem cNil : ErrM.nil.code=0:=rfl
theorem cPl (p : Int) (g : Nat) : (ErrM.pl p g).code=(ErrM.v g).code:=rfl
theorem pPl (p : Int) (g : Nat) : (ErrM.pl p g).place=p:=rfl
theorem Zcq {e : ErrM} : e.code=0 ↔ e=.nil:=by
  cases e with
  | nil=>simp [cNil]
  | v g=>simp only [ErrM.code,ErrM.g?,Zms];constructor <;> intro h <;> first | omega | cases h
  | pl p g=>simp only [ErrM.code,ErrM.g?,Zms];constructor <;> intro h <;> first | omega | cases h
def Zc6 (p : GPortPlan) : ErrM:=
  if p.Kind < 1 ∨ 4 < p.Kind then .v Zf4
  else if p.Size < 1 ∨ 32 < p.Size then .v Hd
  else if p.Depth < 1 ∨ (if 3 ≤ p.Kind then 8 else 1) < p.Depth ∨ p.Refresh < 0 ∨ (if p.Kind=1 then 255 else 0) < p.Refresh then .v Jf
  else .nil
theorem Zbw (p : GPortPlan) : Yb p=some (Zc6 p):=by
  have hk : (p.Kind < 1 ∨ 4 < p.Kind) ∨ p.Kind=1 ∨ p.Kind=2 ∨ p.Kind=3 ∨ p.Kind=4:=by omega
  rcases hk with h|h|h|h|h
  all_goals
    unfold Yb Vm Vl Vk Gi Zap Uk Zc6
    first
    | (have h1 : ¬ p.Kind=1 := by omega
       have h2 : ¬ p.Kind=2:=by omega
       have h3 : ¬ p.Kind=3:=by omega
       have h4 : ¬ p.Kind=4:=by omega
       simp [h1,h2,h3,h4,h])
    | (simp [h,Bool.cond_eq_ite];repeat' split
       all_goals first | rfl | omega | simp_all)
theorem Zcr (p : GPortPlan) : Ve p=some (Zc6 p).code:=by
  have hk : (p.Kind < 1 ∨ 4 < p.Kind) ∨ p.Kind=1 ∨ p.Kind=2 ∨ p.Kind=3 ∨ p.Kind=4:=by omega
  rcases hk with h|h|h|h|h
  all_goals
    unfold Ve Zc6
    simp [h,Bool.cond_eq_ite]
    try (repeat' split
         all_goals first | rfl | omega | (simp_all;omega))
def Zem (i : Nat) (x : GPagePlan) : Option ErrM:=if x.Rights < 0 ∨ 7 < x.Rights then some (.pl i Jf) else if 64 < x.Init.size then some (.pl i Yy) else none
def orN (o : Option ErrM) : ErrM:=o.getD .nil
def Zau (p : GPlan) : ErrM:=if p.Pages.length < 1 ∨ 32 < p.Pages.length then .v Hd else orN (Jw Zem 0 p.Pages)
theorem Zia (i : Int) (g : Nat) : Gq i (.v g)=some (.pl i g):=rfl
theorem Zj3 (p : GPlan) : Yz p=some (Zau p):=by
  have h:=Wx (L:=Jc p) (l:=p.Pages) (f:=Zem) (fun i x hi hx=>by
    simp only [Jc,hi,hx,decide_true,cond_true,Option.bind_some,Zia,Bool.cond_eq_ite,Bool.or_eq_true,decide_eq_true_eq,Zem,Zgj,Tt,Zbh]
    repeat' split
    all_goals first | rfl | (simp_all;done) | omega) (by simp [Jc])
  simp only [Yz,h,Zau,Option.bind_some,Bool.cond_eq_ite,Bool.or_eq_true,decide_eq_true_eq]
  cases Jw Zem 0 p.Pages <;> (split <;> rfl)
def Zen (n : Nat) (i : Nat) (x : GProcPlan) : Option ErrM:=if x.Entry < 0 ∨ IntKind.i64.wrap (64 * (n : Int)) ≤ x.Entry ∨ Int.tmod x.Entry 4 ≠ 0 ∨ x.Prio < 0 ∨ 255 < x.Prio then some (.pl i Jf) else none
def Zav (p : GPlan) : ErrM:=if p.Procs.length < 1 ∨ 8 < p.Procs.length then .v Hd else orN (Jw (Zen p.Pages.length) 0 p.Procs)
theorem Zj4 (p : GPlan) : Va p=some (Zav p):=by
  have h:=Wx (L:=Jd p) (l:=p.Procs) (f:=Zen p.Pages.length) (fun i x hi hx=>by
    simp only [Jd,Yu,hi,hx,decide_true,cond_true,Option.bind_some,Zia,Bool.cond_eq_ite,decide_eq_true_eq,Zen,Zgj,Tt,Zbh,Bool.not_eq_true',decide_eq_false_iff_not]
    repeat' split
    all_goals first | rfl | omega | (simp_all;done) | (simp_all;omega)) (by simp [Jd])
  simp only [Va,h,Zav,Option.bind_some,Bool.cond_eq_ite,Bool.or_eq_true,decide_eq_true_eq]
  cases Jw (Zen p.Pages.length) 0 p.Procs <;> (split <;> rfl)
def Tj (i : Nat) (x : GPortPlan) : Option ErrM:=match Zc6 x with
  | .v g=>some (.pl i g)
  | _=>none
theorem Zar (x : GPortPlan) : Zc6 x=.nil ∨ ∃ g,Zc6 x=.v g:=by
  unfold Zc6
  repeat' split
  all_goals first | exact .inl rfl | exact .inr ⟨_,rfl⟩
def Zbc (p : GPlan) : ErrM:=if 8 < p.Ports.length then .v Hd else orN (Jw Tj 0 p.Ports)
def Zib (i : Nat) (x : Int) : Option ErrM:=if x < 0 ∨ 255 < x then some (.pl i Jf) else none
def Tk (p : GPlan) : ErrM:=if p.Events < 0 ∨ 8 < p.Events then .v Jf else if 8 < p.Sems.length then .v Hd else orN (Jw Zib 0 p.Sems)
def Zic (x : GPortPlan) : Int:=if Zc6 x ≠ .nil then 0 else if x.Kind=2 ∨ x.Kind=4 then 2 else IntKind.i64.wrap (2 + IntKind.i64.wrap (x.Depth * IntKind.i64.wrap (1 + x.Size)))
def Zbx (p : GPlan) : Int:=p.Ports.foldl (fun z x=>IntKind.i64.wrap (z + IntKind.i64.wrap (3 + Zic x))) (IntKind.i64.wrap ((IntKind.i64.wrap ((IntKind.i64.wrap ((IntKind.i64.wrap (58 + (IntKind.i64.wrap (76 * ((p.Procs.length : Nat) : Int))))) + (IntKind.i64.wrap (68 * ((p.Pages.length : Nat) : Int))))) + p.Events)) + ((p.Sems.length : Nat) : Int)))
theorem Zlq (x : GPortPlan) : ∃ e,Hw x=some (Zic x,e):=by
  simp only [Hw,Zbw,Option.bind_some,Zic,Uk,Bool.cond_eq_ite,Bool.not_eq_true',decide_eq_false_iff_not,Bool.or_eq_true,decide_eq_true_eq]
  repeat' split
  all_goals first | exact⟨_,rfl⟩ | (simp_all;done)
theorem Zm8 (x : GPortPlan) : ∃ e,Zak x=some (Zic x,e):=by
  simp only [Zak,Zcr,Option.bind_some,Zic,Bool.cond_eq_ite,Bool.not_eq_true',decide_eq_false_iff_not,Zcq,decide_eq_true_eq]
  by_cases h : Zc6 x=.nil
  · simp only [h,not_true_eq_false,if_false,ne_eq]
    have hk : 1 ≤ x.Kind ∧ x.Kind ≤ 4 ∧ 1 ≤ x.Depth ∧ (x.Kind ≤ 2 → x.Depth=1) ∧ 1 ≤ x.Size ∧ x.Size ≤ 32:=by
      unfold Zc6 at h
      repeat' split at h
      all_goals first | (cases h;done) | omega
    repeat' split
    all_goals first | (exact⟨_,rfl⟩) | omega | skip
    have h1 : x.Depth=1:=by omega
    refine⟨0,?_⟩
    rw [h1,Int.one_mul]
    congr 2
    have e1 : IntKind.i64.wrap (1 + x.Size)=1 + x.Size:=Qi ⟨by omega,by omega⟩
    rw [e1,e1]
    congr 1
    omega
  · simp only [h,not_false_eq_true,if_true,ne_eq]
    exact⟨_,rfl⟩
theorem Zfo (p : GPlan) : Ul p=some (Zbx p):=by
  have h:=Zel (L:=Vb p) (l:=p.Ports) (g:=fun z x=>IntKind.i64.wrap (z + IntKind.i64.wrap (3 + Zic x))) (I:=fun _ _=>True)
    (z:=IntKind.i64.wrap ((IntKind.i64.wrap ((IntKind.i64.wrap ((IntKind.i64.wrap (58 + (IntKind.i64.wrap (76 * ((p.Procs.length : Nat) : Int))))) + (IntKind.i64.wrap (68 * ((p.Pages.length : Nat) : Int))))) + p.Events)) + ((p.Sems.length : Nat) : Int))) trivial
    (fun i x z hi hx _=>⟨by
      obtain⟨e,he⟩:=Zlq x
      simp only [Vb,hi,hx,decide_true,cond_true,Option.bind_some,he],trivial⟩) (fun z _=>by simp [Vb])
  simp only [Ul,h.1,Option.bind_some,Zbx]
theorem Zlr (p : GPlan) : Tc p=some (Zbx p):=by
  have h:=Zel (L:=Vw p) (l:=p.Ports) (g:=fun z x=>IntKind.i64.wrap (z + IntKind.i64.wrap (3 + Zic x))) (I:=fun _ _=>True)
    (z:=IntKind.i64.wrap ((IntKind.i64.wrap ((IntKind.i64.wrap ((IntKind.i64.wrap (58 + (IntKind.i64.wrap (76 * ((p.Procs.length : Nat) : Int))))) + (IntKind.i64.wrap (68 * ((p.Pages.length : Nat) : Int))))) + p.Events)) + ((p.Sems.length : Nat) : Int))) trivial
    (fun i x z hi hx _=>⟨by
      obtain⟨e,he⟩:=Zm8 x
      simp only [Vw,hi,hx,decide_true,cond_true,Option.bind_some,he],trivial⟩) (fun z _=>by simp [Vw])
  simp only [Tc,h.1,Option.bind_some,Zbx]
def orE (a b : ErrM) : ErrM:=if a=.nil then b else a
def Zls (p : GPlan) : ErrM:=orE (Zbc p) (orE (Tk p) (if 4096 < Zbx p then .v Hd else .nil))
theorem Zlt (p : GPlan) : Vq p=some (Zls p):=by
  have h2:=Wx (L:=Jj p) (l:=p.Ports) (f:=Tj) (fun i x hi hx=>by
    simp only [Jj,hi,hx,decide_true,cond_true,Option.bind_some,Zbw,Tj]
    rcases Zar x with h | ⟨g,h⟩
    · rw [h];rfl
    · rw [h];rfl) (by simp [Jj])
  have h1:=Wx (L:=Ji p) (l:=p.Sems) (f:=Zib) (fun i x hi hx=>by
    simp only [Ji,hi,hx,decide_true,cond_true,Option.bind_some,Zia,Bool.cond_eq_ite,Bool.or_eq_true,decide_eq_true_eq,Zib,Zgj,Tt,Zbh,if_true]
    split <;> rfl) (by simp [Ji])
  simp only [Vq,h1,h2,Zfo,Option.bind_some,Bool.cond_eq_ite,Bool.or_eq_true,decide_eq_true_eq,Zls,Zbc,Tk]
  have hp : ∀ e,Jw Tj 0 p.Ports=some e → e ≠ .nil:=by
    have key : ∀ (l : List GPortPlan) k e,Jw Tj k l=some e → e ≠ .nil:=by
      intro l
      induction l with
      | nil=>intro k e h;cases h
      | cons x r ih=>
        intro k e h
        rcases Zar x with hs | ⟨g,hs⟩
        · simp only [Jw,Tj,hs] at h;exact ih _ _ h
        · simp only [Jw,Tj,hs,Option.some.injEq] at h;subst h;intro h;cases h
    exact key _ _
  have hq : ∀ e,Jw Zib 0 p.Sems=some e → e ≠ .nil:=by
    have key : ∀ (l : List Int) k e,Jw Zib k l=some e → e ≠ .nil:=by
      intro l
      induction l with
      | nil=>intro k e h;cases h
      | cons x r ih=>
        intro k e h
        by_cases hs : x < 0 ∨ 255 < x
        · simp only [Jw,Zib,if_pos hs,Option.some.injEq] at h;subst h;intro h;cases h
        · simp only [Jw,Zib,if_neg hs] at h;exact ih _ _ h
    exact key _ _
  by_cases c1 : 8 < p.Ports.length
  · simp only [c1,if_true,orE];rfl
  simp only [c1,if_false]
  cases h3 : Jw Tj 0 p.Ports with
  | some e=>
    have:=hp e h3
    simp only [fin,orN,Option.getD_some,orE,this,if_false]
  | none=>
    simp only [fin,orN,Option.getD_none,orE,if_true]
    by_cases c2 : p.Events < 0 ∨ 8 < p.Events
    · simp only [c2,if_true];rfl
    simp only [c2,if_false]
    by_cases c3 : 8 < p.Sems.length
    · simp only [c3,if_true];rfl
    simp only [c3,if_false]
    cases h4 : Jw Zib 0 p.Sems with
    | some e=>
      have:=hq e h4
      simp only [fin,orN,Option.getD_some,this,if_false]
    | none=>
      simp only [fin,orN,Option.getD_none,if_true]
      split <;> rfl
def Gg (p : GPlan) : ErrM:=if p.Id < 0 ∨ 2147483647 < p.Id then .v Jf else orE (Zau p) (orE (Zav p) (Zls p))
theorem Hp (p : GPlan) : Js p=some (Gg p):=by
  simp only [Js,Zj3,Zj4,Zlt,Option.bind_some,Bool.cond_eq_ite,Bool.or_eq_true,decide_eq_true_eq,Gg,Bool.not_eq_true',decide_eq_false_iff_not,orE]
  repeat' split
  all_goals first | rfl | (simp_all;done)
def eR (e : ErrM) : GR10Err:=⟨e.code,e.place⟩
theorem Zlu (p : GPlan) : Hz p=some (eR (Zau p)):=by
  have h:=Wx (L:=Vd p) (l:=p.Pages) (f:=fun i x=>(Zem i x).map eR) (fun i x hi hx=>by
    simp only [Vd,Ut,hi,hx,decide_true,cond_true,Option.bind_some,Bool.cond_eq_ite,decide_eq_true_eq,Zem]
    by_cases c1 : x.Rights < 0
    · simp only [c1,if_true,true_or,Option.bind_some,Option.map_some,Tt];rfl
    by_cases c2 : 7 < x.Rights
    · simp only [c1,c2,if_true,if_false,decide_true,or_true,Option.bind_some,Option.map_some,Tt];rfl
    by_cases c3 : 64 < x.Init.size
    · simp [c1,c2,c3,Tt];rfl
    · simp [c1,c2,c3,Zbh]) (by simp [Vd])
  simp only [Hz,Ye,Yc,h,Zau,Option.bind_some,Bool.cond_eq_ite,Bool.or_eq_true,decide_eq_true_eq]
  rw [Zan (f:=Zem) (m:=eR) _ _ fun _ _ _=>rfl]
  cases Jw Zem 0 p.Pages <;> (split <;> rfl)
theorem Zlv (p : GPlan) : Ta p=some (eR (Zav p)):=by
  have h:=Wx (L:=Vu p) (l:=p.Procs) (f:=fun i x=>(Zen p.Pages.length i x).map eR) (fun i x hi hx=>by
    by_cases c1 : x.Entry < 0 <;> by_cases c2 : IntKind.i64.wrap (64 * (p.Pages.length : Int)) ≤ x.Entry <;> by_cases c3 : Int.tmod x.Entry 4=0 <;> by_cases c4 : x.Prio < 0 <;> by_cases c5 : 255 < x.Prio
    all_goals
      simp only [Vu,Gl,hi,hx,decide_true,decide_false,cond_true,cond_false,Option.bind_some,Zen,c1,c2,c3,c4,c5,Bool.not_true,Bool.not_false,true_or,or_true,or_false,false_or,if_true,if_false,ne_eq,not_true_eq_false,not_false_eq_true]
      rfl) (by simp [Vu])
  simp only [Ta,Ye,Yc,h,Zav,Option.bind_some,Bool.cond_eq_ite,Bool.or_eq_true,decide_eq_true_eq]
  rw [Zan (f:=Zen p.Pages.length) (m:=eR) _ _ fun _ _ _=>rfl]
  cases Jw (Zen p.Pages.length) 0 p.Procs <;> (split <;> rfl)
theorem Zlw (p : GPlan) : Tb p=some (eR (Zbc p)):=by
  have h:=Wx (L:=Vv p) (l:=p.Ports) (f:=fun i x=>(Tj i x).map eR) (fun i x hi hx=>by
    simp only [Vv,hi,hx,decide_true,cond_true,Option.bind_some,Zcr,Bool.cond_eq_ite,Bool.not_eq_true',decide_eq_false_iff_not,Zcq,Tj]
    rcases Zar x with h | ⟨g,h⟩
    · rw [h];rfl
    · rw [h,if_pos (show ¬ ErrM.v g=.nil from fun h=>by cases h)];rfl) (by simp [Vv])
  simp only [Tb,Ye,Yc,h,Zbc,Option.bind_some,Bool.cond_eq_ite,decide_eq_true_eq]
  rw [Zan (f:=Tj) (m:=eR) _ _ fun _ _ _=>rfl]
  cases Jw Tj 0 p.Ports <;> (split <;> rfl)
theorem Zj5 (p : GPlan) : Gs p=some (eR (Tk p)):=by
  have h:=Wx (L:=Vf p) (l:=p.Sems) (f:=fun i x=>(Zib i x).map eR) (fun i x hi hx=>by
    by_cases c1 : x < 0 <;> by_cases c2 : 255 < x
    all_goals
      simp only [Vf,Uu,hi,hx,decide_true,decide_false,cond_true,cond_false,Option.bind_some,Zib,c1,c2,true_or,or_true,or_false,false_or,if_true,if_false]
      rfl) (by simp [Vf])
  simp only [Gs,Ye,Yc,h,Tk,Option.bind_some,Bool.cond_eq_ite,Bool.or_eq_true,decide_eq_true_eq]
  rw [Zan (f:=Zib) (m:=eR) _ _ fun _ _ _=>rfl]
  by_cases c1 : p.Events < 0 ∨ 8 < p.Events
  · simp only [c1,if_true];rfl
  by_cases c2 : 8 < p.Sems.length
  · simp only [c1,c2,if_true,if_false];rfl
  simp only [c1,c2,if_false]
  cases Jw Zib 0 p.Sems <;> rfl
theorem Zlx (p : GPlan) : Td p=some (eR (Gg p)):=by
  simp only [Td,Zlu,Zlv,Zlw,Zj5,Zlr,Ye,Yc,Option.bind_some,Bool.cond_eq_ite,Bool.or_eq_true,decide_eq_true_eq,Gg,Zls,orE]
  have hL : ∀ i x,i < 4 → [eR (Zau p),eR (Zav p),eR (Zbc p),eR (Tk p)][i]? = some x → Ym (eR (Zau p)) (eR (Zav p)) (eR (Zbc p)) (eR (Tk p)) i=some (nxt (i + 1) (if x.Code=0 then none else some x)):=by
    intro i x hi hx
    have hi' : i < [eR (Zau p),eR (Zav p),eR (Zbc p),eR (Tk p)].length:=hi
    simp only [Ym,hi',hx,decide_true,cond_true,Option.bind_some,Bool.cond_eq_ite,Bool.not_eq_true',decide_eq_false_iff_not]
    by_cases c : x.Code=0
    · simp only [c,not_true_eq_false,if_false,if_true,Zbh]
    · simp only [c,not_false_eq_true,if_false,if_true,Tt]
  have h:=Wx (L:=Ym (eR (Zau p)) (eR (Zav p)) (eR (Zbc p)) (eR (Tk p))) (l:=[eR (Zau p),eR (Zav p),eR (Zbc p),eR (Tk p)]) (f:=fun _ x=>if x.Code=0 then none else some x) hL (by simp [Ym])
  rw [h]
  have hc : ∀ e : ErrM,(eR e).Code=0 ↔ e=.nil:=fun e=>Zcq
  simp only [Jw,hc]
  by_cases c0 : p.Id < 0 ∨ 2147483647 < p.Id
  · simp only [c0,if_true];rfl
  simp only [c0,if_false]
  by_cases c1 : Zau p=.nil
  · simp only [c1,if_true]
    by_cases c2 : Zav p=.nil
    · simp only [c2,if_true]
      by_cases c3 : Zbc p=.nil
      · simp only [c3,if_true]
        by_cases c4 : Tk p=.nil
        · simp only [c4,if_true]
          show Option.bind (some (Sum.inl ())) _=_
          by_cases c5 : 4096 < Zbx p
          · simp only [c5,if_true,Option.bind_some];rfl
          · simp only [c5,if_false,Option.bind_some];rfl
        · simp only [c4,if_false];rfl
      · simp only [c3,if_false];rfl
    · simp only [c2,if_false];rfl
  · simp only [c1,if_false];rfl
theorem Zjf (p : GPlan) : Zal p=some (decide (Gg p=.nil)):=by
  have : ((eR (Gg p)).Code=0)=(Gg p=.nil):=propext Zcq
  simp only [Zal,Zlx,Option.bind_some,this]
end Go.Proofs.YtfemfiiagjnhdaaGreatDoor
set_option linter.unusedVariables false
set_option linter.unusedSimpArgs false
set_option linter.unusedSectionVars false
namespace Go.Proofs.YtfemfiiagjnhdaaGreatDoor
open Go Go.RowKit
abbrev wr (b : List UInt8) : GWireWriter:=⟨b,.nil⟩
theorem Zjg (a b : List UInt8) (h : a.length + b.length ≤ 100000000) : Xe (wr a) b=some (wr (a ++ b)):=by
  have hc : (a.length + b.length) * 1 ≤ 140737488355328:=by omega
  simp only [Xe,decide_true,cond_true,chk,hc,if_true]
def be (n : Int) : Nat → List UInt8
  | 0=>[]
  | k + 1=>Qq (shR .i64 n (((8 * k : Nat) : Int))) :: be n k
theorem Vr (n : Int) : ∀ k,(be n k).length=k
  | 0=>rfl
  | k + 1=>by rw [be,List.length_cons,Vr n k]
theorem Zjh (n : Int) : ∀ (k : Nat) (a : List UInt8),k ≤ 4 → a.length + k ≤ 1000000 → Uj (Xp n) (((k : Nat) : Int) - 1,a,.nil)=some (a ++ be n k,.nil)
  | 0,a,_,_=>by
    have h : ¬ (0 : Int) ≤ ((0 : Nat) : Int) - 1:=by omega
    rw [be,List.append_nil]
    exact Wz (by simp only [Xp,h,decide_false,cond_false])
  | k + 1,a,hk,ha=>by
    have e0 : ((k + 1 : Nat) : Int) - 1=(k : Int):=by omega
    have e1 : (0 : Int) ≤ (k : Int):=by omega
    have e2 : IntKind.i64.wrap (8 * (k : Int))=((8 * k : Nat) : Int):=by rw [Qi ⟨by omega,by omega⟩];omega
    have e3 : (0 : Int) ≤ ((8 * k : Nat) : Int):=by omega
    have e4 : IntKind.i64.wrap ((k : Int) - 1)=(k : Int) - 1:=Qi ⟨by omega,by omega⟩
    have hp:=Zjg a [Qq (shR .i64 n ((8 * k : Nat) : Int))] (by simp;omega)
    have hs : Xp n ((k : Int),a,.nil)=some (.inl ((k : Int) - 1,a ++ [Qq (shR .i64 n ((8 * k : Nat) : Int))],.nil)):=by
      simp only [Xp,e1,e2,e3,e4,hp,decide_true,cond_true,chk,if_true,Option.bind_some]
    rw [e0,Yd hs,Zjh n k _ (by omega) (by simp;omega),be,List.append_assoc,List.singleton_append]
theorem Zm9 : Jk 1=some 255:=by
  have h : (0 : Int) ≤ IntKind.i64.wrap (8 * 1):=by decide
  simp only [Jk,chk,h,if_true];rfl
theorem most2 : Jk 2=some 65535:=by
  have h : (0 : Int) ≤ IntKind.i64.wrap (8 * 2):=by decide
  simp only [Jk,chk,h,if_true];rfl
theorem most4 : Jk 4=some 4294967295:=by
  have h : (0 : Int) ≤ IntKind.i64.wrap (8 * 4):=by decide
  simp only [Jk,chk,h,if_true];rfl
theorem Zhc {n m : Int} {k : Nat} (hm : Jk (k : Int)=some m) (a : List UInt8) (hk : k ≤ 4) (ha : a.length ≤ 900000) (h0 : 0 ≤ n) (h1 : n ≤ m) : Qj (wr a) n (k : Int)=some (wr (a ++ be n k)):=by
  have e1 : ¬ n < 0:=by omega
  have e2 : ¬ m < n:=by omega
  have e3 : IntKind.i64.wrap ((k : Int) - 1)=(k : Int) - 1:=Qi ⟨by omega,by omega⟩
  simp only [Qj,Yv,hm,e1,e2,e3,Zjh n k a hk (by omega),decide_false,cond_false,Option.bind_some]
def Zc7 (z : Int) : Int:=if Zed .u32 z 1=1 then Yr .u32 (shR .u32 z 1) 3988292384 else shR .u32 z 1
theorem Zna (z : Int) : Zah z=some (Zc7 z):=by
  unfold Zah Zc7
  by_cases h : Zed .u32 z 1=1 <;> simp [h]
def Znb (z : Int) : Int:=Zc7 (Zc7 (Zc7 (Zc7 (Zc7 (Zc7 (Zc7 (Zc7 z)))))))
theorem Zpm (z : Int) : Uj Yk (z,0)=some (Znb z):=by
  have hs : ∀ z (i : Nat),i < 8 → Yk (z,i)=some (.inl (Zc7 z,i + 1)):=fun z i h=>by
    simp only [Yk,h,Zna,decide_true,cond_true,Option.bind_some]
  rw [Yd (hs _ 0 (by omega)),Yd (hs _ 1 (by omega)),Yd (hs _ 2 (by omega)),Yd (hs _ 3 (by omega)),Yd (hs _ 4 (by omega)),Yd (hs _ 5 (by omega)),Yd (hs _ 6 (by omega)),Yd (hs _ 7 (by omega))]
  exact Wz (by simp [Yk];rfl)
def Zid (k : Nat) : Vector Int 256:=Vector.ofFn fun j : Fin 256=>if j.val < k then Znb (IntKind.u32.wrap (j.val : Int)) else 0
theorem Zhd (k i : Nat) (h : i < 256) : (Zid k)[i]=if i < k then Znb (IntKind.u32.wrap (i : Int)) else 0:=by simp [Zid]
theorem Zly : Hx=some (Zid 256):=by
  have key : ∀ (m k : Nat) (y : Vector Int 256),k + m=256 → (∀ (j : Nat) (h : j < 256),j < k → y[j]=Znb (IntKind.u32.wrap (j : Int))) → Uj Yl (k,y)=some (Zid 256):=by
    intro m
    induction m with
    | zero=>
      intro k y hk hy
      obtain rfl : k=256:=by omega
      have e : y=Zid 256:=by
        apply Vector.ext
        intro i hi
        rw [hy i hi hi,Zhd _ _ hi,if_pos hi]
      rw [e]
      exact Wz (by simp [Yl])
    | succ m ih=>
      intro k y hk hy
      have hlt : k < 256:=by omega
      have hr : rdV y (k : Int)=some y[k]:=by rw [Zou];simp [hlt]
      have hs : Yl (k,y)=some (.inl (k + 1,y.setIfInBounds k (Znb (IntKind.u32.wrap (k : Int))))):=by
        simp only [Yl,hlt,Zpm,hr,decide_true,cond_true,Option.bind_some,Int.toNat_natCast]
      rw [Yd hs]
      refine ih (k + 1) _ (by omega) fun j h hj=>?_
      rw [Vector.getElem_setIfInBounds h]
      by_cases e : k=j
      · subst e;simp
      · rw [if_neg e];exact hy j h (by omega)
  unfold Hx
  rw [key 256 0 _ rfl (fun j h hj=>absurd hj (Nat.not_lt_zero _))]
  rfl
def Zie (z : Int) (c : UInt8) : Int:=Yr .u32 (Znb (IntKind.u32.wrap (Yr .u8 (IntKind.u8.wrap z) (c.toNat : Int)))) (shR .u32 z 8)
theorem xor8 (a b : Int) : 0 ≤ Yr .u8 a b ∧ Yr .u8 a b < 256:=by
  unfold Yr
  generalize ((BitVec.ofInt IntKind.u8.bits a ^^^ BitVec.ofInt IntKind.u8.bits b).toNat : Int)=z
  have h : IntKind.u8.wrap z=z % 256:=by simp [IntKind.wrap,IntKind.signed,IntKind.bits]
  rw [h];omega
theorem Znc (z : Int) (b : List UInt8) : Hl z b=some (b.foldl Zie z):=by
  by_cases h : b.length=0
  · have : b=[]:=List.length_eq_zero_iff.1 h
    subst this
    simp [Hl]
  have hL:=Zel (L:=Wj b (Zid 256)) (l:=b) (g:=Zie) (I:=fun _ _=>True) (z:=z) trivial (fun i x z hi hx _=>⟨by
    obtain⟨h0,h1⟩:=xor8 (IntKind.u8.wrap z) (x.toNat : Int)
    have hr : rdV (Zid 256) (Yr .u8 (IntKind.u8.wrap z) (x.toNat : Int))=some (Znb (IntKind.u32.wrap (Yr .u8 (IntKind.u8.wrap z) (x.toNat : Int)))):=by
      unfold rdV
      rw [if_pos h0]
      have hlt : (Yr .u8 (IntKind.u8.wrap z) (x.toNat : Int)).toNat < 256:=by omega
      rw [Vector.getElem?_eq_getElem hlt,Zhd _ _ hlt,if_pos hlt,Int.toNat_of_nonneg h0]
    simp only [Wj,hi,hx,hr,decide_true,cond_true,Option.bind_some,Zie],trivial⟩) (fun z _=>by simp [Wj])
  simp only [Hl,h,Zly,hL.1,decide_false,cond_false,Option.bind_some]
def Zhq (b : List UInt8) : Int:=Zmh .u32 (b.foldl Zie (Zmh .u32 0))
theorem Zif (b : List UInt8) : Zai b=some (Zhq b):=by
  simp only [Zai,Zbg,Znc,Option.bind_some,Zmh];rfl
end Go.Proofs.YtfemfiiagjnhdaaGreatDoor
set_option linter.unusedVariables false
set_option linter.unusedSimpArgs false
set_option linter.unusedSectionVars false
namespace Go.Proofs.YtfemfiiagjnhdaaGreatDoor
open Go Go.RowKit
structure OkCur (c : GWireCursor) : Prop where
  a0 : 0 ≤ c.at_
  ab : c.at_ ≤ c.bound_
  bl : c.bound_ ≤ ((c.b_.length : Nat) : Int)
  sz : c.b_.length ≤ 140737488355328
theorem Xc (c : GWireCursor) : (⟨c.b_,c.at_,c.bound_⟩ : GWireCursor)=c:=rfl
def cut (b : List UInt8) (a n : Nat) : List UInt8:=(b.drop a).take n
theorem Zlz {b : List UInt8} {a n : Nat} (h : a + n ≤ b.length) : (cut b a n).length=n:=by
  rw [cut,List.length_take,List.length_drop];omega
theorem Yi (c : GWireCursor) (h : OkCur c) : Qn c=some (c.bound_ - c.at_,c):=by
  obtain⟨h1,h2,h3,h4⟩:=h
  have e : IntKind.i64.wrap (c.bound_ - c.at_)=c.bound_ - c.at_:=Qi ⟨by omega,by omega⟩
  simp only [Xc,Qn,e]
theorem Zgk (c : GWireCursor) (off w : Nat) (hw : w ≤ 4) (h : OkCur c) (ho : c.at_ + (off : Int) + (w : Int) ≤ ((c.b_.length : Nat) : Int)) :
    Qx c (off : Int) (w : Int)=some (Ya (cut c.b_ (c.at_.toNat + off) w),c):=by
  obtain⟨h1,h2,h3,h4⟩:=h
  have e1 : IntKind.i64.wrap (c.at_ + (off : Int))=c.at_ + (off : Int):=Qi ⟨by omega,by omega⟩
  have e2 : IntKind.i64.wrap (c.at_ + (off : Int) + (w : Int))=c.at_ + (off : Int) + (w : Int):=Qi ⟨by omega,by omega⟩
  have e3 : (c.at_ + (off : Int)).toNat=c.at_.toNat + off:=by omega
  have e4 : (c.at_ + (off : Int) + (w : Int)).toNat - (c.at_.toNat + off)=w:=by omega
  have hc : (c.b_.drop (c.at_.toNat + off)).take w=cut c.b_ (c.at_.toNat + off) w:=rfl
  have hl:=Zlz (b:=c.b_) (a:=c.at_.toNat + off) (n:=w) (by omega)
  have hch : 0 ≤ c.at_ + (off : Int) ∧ c.at_ + (off : Int) ≤ c.at_ + (off : Int) + (w : Int) ∧ c.at_ + (off : Int) + (w : Int) ≤ ((c.b_.length : Nat) : Int):=⟨by omega,by omega,ho⟩
  have hL : Uj (Qy c (off : Int) (w : Int)) (0,0)=some (Ya (cut c.b_ (c.at_.toNat + off) w)):=by
    generalize hl0 : cut c.b_ (c.at_.toNat + off) w=l at *
    have key : ∀ m k,k + m=l.length → Uj (Qy c (off : Int) (w : Int)) (Ya (l.take k),k)=some (Ya l):=by
      intro m
      induction m with
      | zero=>
        intro k hk
        have e : l.take k=l:=List.take_of_length_le (by omega)
        rw [e]
        exact Wz (by simp only [Xc,Qy,e1,e2,e3,e4,hc,hl0,show ¬ k < l.length by omega,decide_false,cond_false])
      | succ m ih=>
        intro k hk
        have hlt : k < l.length:=by omega
        have hx : l[k]? = some l[k]:=List.getElem?_eq_getElem hlt
        obtain⟨b0,b1⟩:=Zi8 k (l.take k) (by rw [List.length_take];omega)
        have hk3 : k ≤ 3:=by omega
        have hb : Ya (l.take k) < 16777216:=by
          have : (256 : Int) ^ k ≤ 256 ^ 3:=by
            rcases (by omega : k=0 ∨ k=1 ∨ k=2 ∨ k=3) with rfl|rfl|rfl|rfl <;> decide
          have h3 : (256 : Int) ^ 3=16777216:=by decide
          omega
        have hcx:=(l[k]).toNat_lt
        have ho8:=or8 (z:=(8 : Int).toNat) b0 hb (x:=((l[k]).toNat : Int)) (by omega) (by omega) rfl
        have es : Ya (l.take (k + 1))=Ya (l.take k) * 256 + ((l[k]).toNat : Int):=by rw [List.take_add_one,hx];exact Zfh _ _
        have hs : Qy c (off : Int) (w : Int) (Ya (l.take k),k)=some (.inl (Ya (l.take (k + 1)),k + 1)):=by
          simp only [Xc,Qy,e1,e2,e3,e4,hc,hl0,hlt,hx,decide_true,cond_true,Option.bind_some,es]
          exact congrArg (fun z=>some (Sum.inl (z,k + 1))) ho8
        rw [Yd hs]
        exact ih (k + 1) (by omega)
    have:=key l.length 0 (by omega)
    simpa [Ya] using this
  simp only [Xc,Qx,e1,e2,chk,hch,and_self,if_true,hL,Option.bind_some]
theorem Zd0 (c : GWireCursor) (h : OkCur c) : Kb c=some (if c.bound_ - c.at_ < 3 then (0,0,.pl c.at_ Kz,c) else (Ya (cut c.b_ c.at_.toNat 1),Ya (cut c.b_ (c.at_.toNat + 1) 2),.nil,c)):=by
  have ha : Jt c.at_ (.v Kz)=some (.pl c.at_ Kz):=rfl
  by_cases hc : c.bound_ - c.at_ < 3
  · simp only [Xc,Kb,Yi c h,hc,ha,decide_true,cond_true,Option.bind_some,if_true]
  · have p1:=Zgk c 0 1 (by omega) h (by have:=h.bl;omega)
    have p2:=Zgk c 1 2 (by omega) h (by have:=h.bl;omega)
    rw [Nat.add_zero] at p1
    simp only [Xc,Kb,Yi c h,hc,decide_false,cond_false,Option.bind_some,if_false]
    rw [show Qx c 0 1=_ from p1]
    simp only [Option.bind_some]
    rw [show Qx c 1 2=_ from p2]
    rfl
theorem Zl0 {b : List UInt8} (hb : b.length ≤ 2) : 0 ≤ Ya b ∧ Ya b ≤ 65535:=by
  obtain⟨h1,h2⟩:=Zi8 b.length b rfl
  have : (256 : Int) ^ b.length ≤ 256 ^ 2:=by
    rcases (by omega : b.length=0 ∨ b.length=1 ∨ b.length=2) with e|e|e <;> rw [e] <;> decide
  have h3 : (256 : Int) ^ 2=65536:=by decide
  omega
theorem Zji (b : List UInt8) (a n : Nat) : (cut b a n).length ≤ n:=by rw [cut,List.length_take];omega
def Hg (c : GWireCursor) : Int × Option GWireCursor × ErrM × GWireCursor:=
  if c.bound_ - c.at_ < 3 then (0,none,.pl c.at_ Kz,c)
  else if Ya (cut c.b_ c.at_.toNat 1)=0 then (0,none,.pl c.at_ Zjy,c)
  else if c.bound_ - c.at_ - 3 < Ya (cut c.b_ (c.at_.toNat + 1) 2) then (0,none,.pl (c.at_ + 1) Yy,c)
  else (Ya (cut c.b_ c.at_.toNat 1),some ⟨c.b_,c.at_ + 3,c.at_ + 3 + Ya (cut c.b_ (c.at_.toNat + 1) 2)⟩,.nil,⟨c.b_,c.at_ + 3 + Ya (cut c.b_ (c.at_.toNat + 1) 2),c.bound_⟩)
theorem Zl1 (c : GWireCursor) (n : Int) (h : OkCur c) (h3 : 3 ≤ c.bound_ - c.at_) (n0 : 0 ≤ n) (n1 : n ≤ 65535) :
    Jp c n=some (if c.bound_ - c.at_ - 3 < n then (none,.pl (c.at_ + 1) Yy,c) else (some ⟨c.b_,c.at_ + 3,c.at_ + 3 + n⟩,.nil,⟨c.b_,c.at_ + 3 + n,c.bound_⟩)):=by
  have ok:=h
  obtain⟨k1,k2,k3,k4⟩:=h
  have w1 : IntKind.i64.wrap (c.bound_ - c.at_ - 3)=c.bound_ - c.at_ - 3:=Qi ⟨by omega,by omega⟩
  have w2 : IntKind.i64.wrap (c.at_ + 1)=c.at_ + 1:=Qi ⟨by omega,by omega⟩
  have w3 : IntKind.i64.wrap (c.at_ + 3)=c.at_ + 3:=Qi ⟨by omega,by omega⟩
  have w4 : IntKind.i64.wrap (c.at_ + 3 + n)=c.at_ + 3 + n:=Qi ⟨by omega,by omega⟩
  have ha : Jt (c.at_ + 1) (.v Yy)=some (.pl (c.at_ + 1) Yy):=rfl
  by_cases hc : c.bound_ - c.at_ - 3 < n
  · simp only [Xc,Jp,Yi c ok,w1,w2,hc,ha,decide_true,cond_true,Option.bind_some,if_true]
  · simp only [Xc,Jp,Yi c ok,w1,w3,w4,hc,decide_false,cond_false,Option.bind_some,if_false]
theorem Zjj (c : GWireCursor) (h : OkCur c) : Xr c=some (Hg c):=by
  have hg : Jt c.at_ (.v Zjy)=some (.pl c.at_ Zjy):=rfl
  unfold Hg
  by_cases hc : c.bound_ - c.at_ < 3
  · have : ¬ (ErrM.pl c.at_ Kz=ErrM.nil):=fun h=>by cases h
    simp only [Xc,Xr,Zd0 c h,hc,if_true,Option.bind_some,this,decide_false,Bool.not_false,cond_true]
  · have hn:=Zl0 (Zji c.b_ (c.at_.toNat + 1) 2)
    have he:=Zl1 c (Ya (cut c.b_ (c.at_.toNat + 1) 2)) h (by omega) hn.1 hn.2
    by_cases ht : Ya (cut c.b_ c.at_.toNat 1)=0
    · simp only [Xc,Xr,Zd0 c h,hc,ht,hg,if_true,if_false,Option.bind_some,decide_true,Bool.not_true,cond_true,cond_false]
    · by_cases hl : c.bound_ - c.at_ - 3 < Ya (cut c.b_ (c.at_.toNat + 1) 2)
      · have : ¬ (ErrM.pl (c.at_ + 1) Yy=ErrM.nil):=fun h=>by cases h
        rw [if_pos hl] at he
        simp only [Xc,Xr,Zd0 c h,hc,ht,hl,he,this,if_true,if_false,Option.bind_some,decide_true,decide_false,Bool.not_true,Bool.not_false,cond_true,cond_false]
      · rw [if_neg hl] at he
        simp only [Xc,Xr,Zd0 c h,hc,ht,hl,he,if_false,Option.bind_some,decide_true,decide_false,Bool.not_true,cond_false]
theorem Znd {c : GWireCursor} (h : OkCur c) : OkCur (Hg c).2.2.2 ∧ (Hg c).2.2.2.b_=c.b_ ∧ (Hg c).2.2.2.bound_=c.bound_ ∧ (∀ d,(Hg c).2.1=some d → OkCur d ∧ d.b_=c.b_ ∧ c.at_ + 3=d.at_ ∧ d.bound_=(Hg c).2.2.2.at_) ∧ ((Hg c).2.2.1=.nil → ∃ d,(Hg c).2.1=some d):=by
  have ok:=h
  obtain⟨k1,k2,k3,k4⟩:=h
  have hn:=Zl0 (Zji c.b_ (c.at_.toNat + 1) 2)
  unfold Hg
  split
  · exact⟨ok,rfl,rfl,(fun d h=>by cases h),(fun h=>by cases h)⟩
  · split
    · exact⟨ok,rfl,rfl,(fun d h=>by cases h),(fun h=>by cases h)⟩
    · split
      · exact⟨ok,rfl,rfl,(fun d h=>by cases h),(fun h=>by cases h)⟩
      · refine⟨⟨by simp only;omega,by simp only;omega,k3,k4⟩,rfl,rfl,fun d hd=>?_,fun _=>⟨_,rfl⟩⟩
        cases hd
        exact⟨⟨by simp only;omega,by simp only;omega,by simp only;omega,k4⟩,rfl,rfl,rfl⟩
end Go.Proofs.YtfemfiiagjnhdaaGreatDoor
set_option linter.unusedVariables false
set_option linter.unusedSimpArgs false
set_option linter.unusedSectionVars false
namespace Go.Proofs.YtfemfiiagjnhdaaGreatDoor
open Go Go.RowKit
theorem Zeo {α : Type} {l : List α} {i : Nat} {x : α} (h : l[i]? = some x) : l.take (i + 1)=l.take i ++ [x]:=by rw [List.take_add_one,h];rfl
section
variable {σ ρ α : Type}
theorem Hq {L : σ → Option (σ ⊕ ρ)} (I : σ → Prop) (Q : ρ → Prop) (μ : σ → Nat)
    (h : ∀ s,I s → (∃ s',L s=some (.inl s') ∧ I s' ∧ μ s' < μ s) ∨ (∃ r,L s=some (.inr r) ∧ Q r)) {s : σ} (h0 : I s) : ∃ r,Uj L s=some r ∧ Q r:=by
  have key : ∀ n s,μ s < n → I s → ∃ r,Uj L s=some r ∧ Q r:=by
    intro n
    induction n with
    | zero=>intro s hs;omega
    | succ n ih=>
      intro s hs hI
      rcases h s hI with ⟨s',h1,h2,h3⟩ | ⟨r,h1,h2⟩
      · obtain⟨r,h4,h5⟩:=ih s' (by omega) h2
        exact⟨r,(Yd h1).trans h4,h5⟩
      · exact⟨r,Wz h1,h2⟩
  exact key _ s (Nat.lt_succ_self _) h0
theorem Zbd {f : Nat → α → Option ErrM} (hf : ∀ i x,f i x ≠ some .nil) : ∀ {l : List α} {k : Nat},orN (Jw f k l)=.nil → ∀ i x,l[i]? = some x → f (k + i) x=none
  | [],_,_,i,x,hx=>by simp at hx
  | y :: r,k,h,i,x,hx=>by
    cases hy : f k y with
    | some e=>
      simp only [Jw,hy,orN,Option.getD_some] at h
      subst h;exact absurd hy (hf k y)
    | none=>
      simp only [Jw,hy] at h
      cases i with
      | zero=>
        have : y=x:=by simpa using hx
        subst this;exact hy
      | succ j=>
        have:=Zbd hf h j x (by simpa using hx)
        rwa [show k + 1 + j=k + (j + 1) by omega] at this
end
theorem Zd1 {a b : ErrM} (h : orE a b=.nil) : a=.nil ∧ b=.nil:=by
  unfold orE at h
  by_cases c : a=.nil
  · rw [if_pos c] at h;exact⟨c,h⟩
  · rw [if_neg c] at h;exact absurd h c
structure OkK (p : GPlan) : Prop where
  id0 : 0 ≤ p.Id
  id1 : p.Id ≤ 2147483647
  pg0 : 1 ≤ p.Pages.length
  pg1 : p.Pages.length ≤ 32
  pr0 : 1 ≤ p.Procs.length
  pr1 : p.Procs.length ≤ 8
  po1 : p.Ports.length ≤ 8
  ev0 : 0 ≤ p.Events
  ev1 : p.Events ≤ 8
  se1 : p.Sems.length ≤ 8
  pag : ∀ x ∈ p.Pages,0 ≤ x.Rights ∧ x.Rights ≤ 7 ∧ x.Init.size ≤ 64
  prio : ∀ x ∈ p.Procs,0 ≤ x.Prio ∧ x.Prio ≤ 255 ∧ 0 ≤ x.Entry ∧ x.Entry < 2048 ∧ x.Entry < 64 * (p.Pages.length : Int) ∧ Int.tmod x.Entry 4=0
  dep : ∀ x ∈ p.Ports,Zc6 x=.nil ∧ 1 ≤ x.Kind ∧ x.Kind ≤ 4 ∧ 1 ≤ x.Size ∧ x.Size ≤ 32 ∧ 1 ≤ x.Depth ∧ x.Depth ≤ 8 ∧ 0 ≤ x.Refresh ∧ x.Refresh ≤ 255
  bnd : Zbx p ≤ 4096
  sem : ∀ n ∈ p.Sems,0 ≤ n ∧ n ≤ 255
theorem Zcs {p : GPlan} (h : Gg p=.nil) : OkK p:=by
  unfold Gg at h
  by_cases c0 : p.Id < 0 ∨ 2147483647 < p.Id
  · rw [if_pos c0] at h;cases h
  rw [if_neg c0] at h
  obtain⟨h1,h2⟩:=Zd1 h
  obtain⟨h2,h3⟩:=Zd1 h2
  unfold Zls at h3
  obtain⟨h3,h4⟩:=Zd1 h3
  obtain⟨h4,h5⟩:=Zd1 h4
  unfold Zau at h1
  by_cases c1 : p.Pages.length < 1 ∨ 32 < p.Pages.length
  · rw [if_pos c1] at h1;cases h1
  rw [if_neg c1] at h1
  have c6 : ¬ 4096 < Zbx p:=fun h=>by rw [if_pos h] at h5;cases h5
  have hw : IntKind.i64.wrap (64 * (p.Pages.length : Int))=64 * (p.Pages.length : Int):=Qi ⟨by omega,by omega⟩
  unfold Zav at h2
  by_cases c2 : p.Procs.length < 1 ∨ 8 < p.Procs.length
  · rw [if_pos c2] at h2;cases h2
  rw [if_neg c2] at h2
  unfold Zbc at h3
  by_cases c3 : 8 < p.Ports.length
  · rw [if_pos c3] at h3;cases h3
  rw [if_neg c3] at h3
  unfold Tk at h4
  by_cases c4 : p.Events < 0 ∨ 8 < p.Events
  · rw [if_pos c4] at h4;cases h4
  rw [if_neg c4] at h4
  by_cases c5 : 8 < p.Sems.length
  · rw [if_pos c5] at h4;cases h4
  rw [if_neg c5] at h4
  refine⟨by omega,by omega,by omega,by omega,by omega,by omega,by omega,by omega,by omega,by omega,fun x hx=>?_,fun x hx=>?_,fun x hx=>?_,by omega,fun x hx=>?_⟩
  · obtain⟨i,hi⟩:=List.mem_iff_getElem?.1 hx
    have:=Zbd (f:=Zem) (fun i x=>by unfold Zem;(repeat' split) <;> intro h <;> cases h) h1 i x hi
    unfold Zem at this
    repeat' split at this
    all_goals first | (cases this;done) | omega
  · obtain⟨i,hi⟩:=List.mem_iff_getElem?.1 hx
    have:=Zbd (f:=Zen p.Pages.length) (fun i x=>by unfold Zen;split <;> intro h <;> cases h) h2 i x hi
    unfold Zen at this
    rw [hw] at this
    split at this
    · cases this
    · omega
  · obtain⟨i,hi⟩:=List.mem_iff_getElem?.1 hx
    have:=Zbd (f:=Tj) (fun i x=>by unfold Tj;split <;> intro h <;> cases h) h3 i x hi
    unfold Tj at this
    rcases Zar x with e | ⟨g,e⟩
    · refine⟨e,?_⟩
      unfold Zc6 at e
      repeat' split at e
      all_goals first | (cases e;done) | omega
    · rw [e] at this;cases this
  · obtain⟨i,hi⟩:=List.mem_iff_getElem?.1 hx
    have:=Zbd (f:=Zib) (fun i x=>by unfold Zib;split <;> intro h <;> cases h) h4 i x hi
    unfold Zib at this
    split at this
    · cases this
    · omega
def Zep (x : GProcPlan) : GProc:=⟨Vector.replicate 16 0,IntKind.u32.wrap x.Entry,if x.Auto=true then 1 else 0,x.Prio,0,0⟩
def Zdt : Nat → List GProcPlan → List Int
  | _,[]=>[]
  | k,x :: r=>(if x.Auto=true then [((k : Nat) : Int)] else []) ++ Zdt (k + 1) r
theorem Zfp (x : GProcPlan) : ∀ (l : List GProcPlan) (k : Nat),Zdt k (l ++ [x])=Zdt k l ++ (if x.Auto=true then [((k + l.length : Nat) : Int)] else [])
  | [],k=>by simp [Zdt]
  | y :: r,k=>by
    have ih:=Zfp x r (k + 1)
    rw [List.cons_append,Zdt,ih,Zdt,List.append_assoc,List.length_cons,show k + 1 + r.length=k + (r.length + 1) by omega]
theorem Zhe : ∀ (l : List GProcPlan) (k : Nat),(Zdt k l).length ≤ l.length
  | [],_=>Nat.le_refl _
  | y :: r,k=>by
    have:=Zhe r (k + 1)
    rw [Zdt,List.length_append,List.length_cons];split <;> simp <;> omega
def Zct (x : GPagePlan) : GPage:=⟨x.Rights,false,Zmi (Vector.replicate 64 0) x.Init⟩
def Zhf (p : GPlan) : GState:=⟨p.Id,0,0,p.Procs.map Zep,Zdt 0 p.Procs,[],List.replicate p.Events.toNat false,p.Sems,List.replicate p.Ports.length ⟨[],0⟩,p.Pages.map Zct⟩
theorem Zj6 {p : GPlan} (h : Gg p=.nil) : Hy p=some (Zhf p,.nil):=by
  have ok:=Zcs h
  have hA:=Hq (L:=Vt p) (fun s : Nat × List GProc × List Int=>s.1 ≤ p.Procs.length ∧ s.2.1=(p.Procs.take s.1).map Zep ∧ s.2.2=Zdt 0 (p.Procs.take s.1)) (fun r=>r=(p.Procs.map Zep,Zdt 0 p.Procs)) (fun s=>p.Procs.length - s.1) (fun s hI=>by
    obtain⟨i,l1,l2⟩:=s
    obtain⟨hi,h1,h2⟩:=hI
    simp only at hi h1 h2
    by_cases hlt : i < p.Procs.length
    · have hx : p.Procs[i]? = some p.Procs[i]:=List.getElem?_eq_getElem hlt
      generalize p.Procs[i]=x at hx
      have hl1 : l1.length=i:=by rw [h1];simp;omega
      have hl2:=Zhe (p.Procs.take i) 0
      rw [← h2,List.length_take] at hl2
      have hp:=ok.pr1
      have c1 : ∀ t : GProc,(l1.length + [t].length) * 104 ≤ 140737488355328:=fun t=>by simp only [List.length_cons,List.length_nil];omega
      have c2 : (l2.length + [((i : Nat) : Int)].length) * 8 ≤ 140737488355328:=by simp only [List.length_cons,List.length_nil];omega
      have e1 : (p.Procs.take (i + 1)).map Zep=l1 ++ [Zep x]:=by rw [Zeo hx,List.map_append,h1];rfl
      have e2 : Zdt 0 (p.Procs.take (i + 1))=l2 ++ (if x.Auto=true then [((i : Nat) : Int)] else []):=by rw [Zeo hx,Zfp,← h2,List.length_take,Nat.min_eq_left (by omega),Nat.zero_add]
      refine .inl ⟨(i + 1,l1 ++ [Zep x],l2 ++ (if x.Auto=true then [((i : Nat) : Int)] else [])),?_,⟨by simp only;omega,e1.symm,e2.symm⟩,by simp only;omega⟩
      simp only [Vt,Gj,hlt,hx,decide_true,cond_true,Option.bind_some,Zep]
      rcases Bool.eq_false_or_eq_true x.Auto with e|e
      · simp only [e,cond_true,chk,c1,c2,if_true,Option.bind_some]
      · simp only [e,cond_false,chk,c1,if_true,Option.bind_some,Bool.false_eq_true,if_false,List.append_nil]
    · refine .inr ⟨(l1,l2),?_,?_⟩
      · simp only [Vt,hlt,decide_false,cond_false]
      · have : p.Procs.take i=p.Procs:=List.take_of_length_le (by omega)
        rw [this] at h1 h2;rw [h1,h2]) (s:=(0,[],[])) ⟨Nat.zero_le _,rfl,rfl⟩
  obtain⟨_,hA,rfl⟩:=hA
  have hB:=Hq (L:=Vs p) (fun s : Nat × List GPage=>s.1 ≤ p.Pages.length ∧ s.2=(p.Pages.take s.1).map Zct) (fun r=>r=p.Pages.map Zct) (fun s=>p.Pages.length - s.1) (fun s hI=>by
    obtain⟨i,l1⟩:=s
    obtain⟨hi,h1⟩:=hI
    simp only at hi h1
    by_cases hlt : i < p.Pages.length
    · have hx : p.Pages[i]? = some p.Pages[i]:=List.getElem?_eq_getElem hlt
      generalize p.Pages[i]=x at hx
      have hl1 : l1.length=i:=by rw [h1];simp;omega
      have hp:=ok.pg1
      have c1 : ∀ t : GPage,(l1.length + [t].length) * 80 ≤ 140737488355328:=fun t=>by simp only [List.length_cons,List.length_nil];omega
      have e1 : (p.Pages.take (i + 1)).map Zct=l1 ++ [Zct x]:=by rw [Zeo hx,List.map_append,h1];rfl
      refine .inl ⟨(i + 1,l1 ++ [Zct x]),?_,⟨by simp only;omega,e1.symm⟩,by simp only;omega⟩
      simp only [Vs,hlt,hx,decide_true,cond_true,Option.bind_some,chk,c1,if_true,Zct]
    · refine .inr ⟨l1,?_,?_⟩
      · simp only [Vs,hlt,decide_false,cond_false]
      · have : p.Pages.take i=p.Pages:=List.take_of_length_le (by omega)
        rw [this] at h1;rw [h1]) (s:=(0,[])) ⟨Nat.zero_le _,rfl⟩
  obtain⟨_,hB,rfl⟩:=hB
  have c0:=ok.ev0
  have c1 : p.Events.toNat * 1 ≤ 140737488355328:=by have:=ok.ev1;omega
  have c2 : (([] : List Int).length + p.Sems.length) * 8 ≤ 140737488355328:=by have:=ok.se1;simp only [List.length_nil];omega
  have c3 : p.Ports.length * 32 ≤ 140737488355328:=by have:=ok.po1;omega
  simp only [Hy,Gk,Vz,Hp,h,chk,c0,c1,c2,c3,hA,hB,decide_true,Bool.not_true,cond_false,Option.bind_some,if_true,List.nil_append]
  rfl
theorem Zhg {n : Int} (a : List UInt8) (ha : a.length ≤ 900000) (h0 : 0 ≤ n) (h1 : n ≤ 255) : Qu (wr a) n=some (wr (a ++ be n 1)):=by
  have h : Qj (wr a) n 1=some (wr (a ++ be n 1)):=Zhc (k:=1) Zm9 a (by omega) ha h0 h1
  simp only [Qu,h,Option.bind_some]
theorem u16_wr {n : Int} (a : List UInt8) (ha : a.length ≤ 900000) (h0 : 0 ≤ n) (h1 : n ≤ 65535) : Vc (wr a) n=some (wr (a ++ be n 2)):=by
  have h : Qj (wr a) n 2=some (wr (a ++ be n 2)):=Zhc (k:=2) most2 a (by omega) ha h0 h1
  simp only [Vc,h,Option.bind_some]
theorem Zl2 {n : Int} (a : List UInt8) (ha : a.length ≤ 900000) (h0 : 0 ≤ n) (h1 : n ≤ 4294967295) : Jm (wr a) n=some (wr (a ++ be n 4)):=by
  have h : Qj (wr a) n 4=some (wr (a ++ be n 4)):=Zhc (k:=4) most4 a (by omega) ha h0 h1
  simp only [Jm,h,Option.bind_some]
theorem Zl3 (a b : List UInt8) (ha : a.length + b.length ≤ 100000000) : Jl (wr a) b=some (wr (a ++ b)):=by
  simp only [Jl,Zjg a b ha,Option.bind_some]
def Zig (b : Bool) : List UInt8:=if b=true then [Qq 1] else [Qq 0]
theorem Zl4 (a : List UInt8) (b : Bool) (ha : a.length ≤ 900000) : Jz (wr a) b=some (wr (a ++ Zig b)):=by
  have h : ∀ c : UInt8,Xe (wr a) [c]=some (wr (a ++ [c])):=fun c=>Zjg a [c] (by simp;omega)
  cases b <;> simp [Jz,h,Zig]
theorem Zih (a : List UInt8) (ha : a.length ≤ 900000) : Xz (wr a)=some (a,.nil,wr a):=by
  have c : (([] : List UInt8).length + a.length) * 1 ≤ 140737488355328:=by simp;omega
  simp only [Xz,Xb,chk,c,if_true,Option.bind_some,decide_true,Bool.not_true,cond_false,List.nil_append]
def Zcu (t : Int) (b : List UInt8) : List UInt8:=be t 1 ++ (be (b.length : Int) 2 ++ b)
theorem Tu (t : Int) (b : List UInt8) : (Zcu t b).length=3 + b.length:=by simp [Zcu,Vr];omega
theorem Zl5 {t : Int} (a b : List UInt8) (ha : a.length ≤ 500000) (h0 : 1 ≤ t) (h1 : t ≤ 255) (hb : b.length ≤ 65535) : Kj (wr a) t b=some (wr (a ++ Zcu t b)):=by
  have e1 : ¬ t < 1:=by omega
  have e2 : ¬ 255 < t:=by omega
  have e3 : ¬ 65535 < b.length:=by omega
  have n1 : Qj (wr a) t 1=some (wr (a ++ be t 1)):=Zhc (k:=1) Zm9 a (by omega) (by omega) (by omega) h1
  have n2 : Qj (wr (a ++ be t 1)) (b.length : Int) 2=some (wr (a ++ be t 1 ++ be (b.length : Int) 2)):=Zhc (k:=2) most2 _ (by omega) (by simp [Vr];omega) (by omega) (by omega)
  have n3:=Zjg (a ++ be t 1 ++ be (b.length : Int) 2) b (by simp [Vr];omega)
  simp only [Kj,Km,Zm9,e1,e2,e3,n1,n2,n3,decide_false,cond_false,Option.bind_some]
  simp only [Zcu,List.append_assoc]
theorem Zao {t : Int} {f : GWireWriter → Option GWireWriter} {b : List UInt8} (hf : f (wr [])=some (wr b)) (a : List UInt8) (ha : a.length ≤ 500000) (h0 : 1 ≤ t) (h1 : t ≤ 255) (hb : b.length ≤ 65535) : Kn (wr a) t f=some (wr (a ++ Zcu t b)):=by
  have e : Je=some (wr []):=rfl
  simp only [Kn,e,hf,Zih b (by omega),Zl5 a b ha h0 h1 hb,Option.bind_some]
theorem Zd2 {α : Type} {L : Nat × List UInt8 × ErrM → Option ((Nat × List UInt8 × ErrM) ⊕ (List UInt8 × ErrM))} {l : List α} {f : α → List UInt8} (B M : Nat)
    (h : ∀ i x a,i < l.length → l[i]? = some x → a.length ≤ M → L (i,a,.nil)=some (.inl (i + 1,a ++ f x,.nil))) (h2 : ∀ a,L (l.length,a,.nil)=some (.inr (a,.nil)))
    (hB : ∀ x ∈ l,(f x).length ≤ B) (a : List UInt8) (ha : a.length + l.length * B ≤ M) : Uj L (0,a,.nil)=some (a ++ l.flatMap f,.nil):=by
  have key : ∀ m k a,k + m=l.length → a.length + m * B ≤ M → Uj L (k,a,.nil)=some (a ++ (l.drop k).flatMap f,.nil):=by
    intro m
    induction m with
    | zero=>
      intro k a hk _
      obtain rfl : k=l.length:=by omega
      rw [Wz (h2 a),List.drop_length];simp
    | succ m ih=>
      intro k a hk ha
      have hlt : k < l.length:=by omega
      have hx : l[k]? = some l[k]:=List.getElem?_eq_getElem hlt
      have hd : l.drop k=l[k] :: l.drop (k + 1):=List.drop_eq_getElem_cons hlt
      have hb:=hB l[k] (List.getElem_mem hlt)
      rw [Nat.succ_mul] at ha
      rw [Yd (h k _ a hlt hx (by omega)),ih (k + 1) _ (by omega) (by rw [List.length_append];omega),hd,List.flatMap_cons,List.append_assoc]
  simpa using key l.length 0 a (by omega) ha
def Zc8 (x : GPagePlan) : List UInt8:=be x.Rights 1 ++ x.Init.data.toList
def Zdu (x : GProcPlan) : List UInt8:=be x.Entry 4 ++ (be x.Prio 1 ++ Zig x.Auto)
def Zeq (x : GPortPlan) : List UInt8:=be x.Kind 1 ++ (be x.Size 1 ++ (be x.Depth 1 ++ be x.Refresh 1))
def Zne (x : Int) : List UInt8:=be x 1
def Zaa (p : GPlan) : List UInt8:=p.Pages.flatMap (fun x=>Zcu 1 (Zc8 x)) ++ (p.Procs.flatMap (fun x=>Zcu 2 (Zdu x)) ++ (p.Ports.flatMap (fun x=>Zcu 3 (Zeq x)) ++ (Zcu 4 (be p.Events 1) ++ Zcu 5 (p.Sems.flatMap Zne))))
theorem Zhh (b : Bool) : (Zig b).length=1:=by cases b <;> rfl
theorem Zer (x : GPagePlan) : (Zc8 x).length=1 + x.Init.size:=by
  have : x.Init.data.toList.length=x.Init.size:=rfl
  rw [Zc8,List.length_append,Vr,this]
theorem Zes (x : GProcPlan) : (Zdu x).length=6:=by simp [Zdu,Vr,Zhh]
theorem Zet (x : GPortPlan) : (Zeq x).length=4:=by simp [Zeq,Vr]
theorem Hh {α : Type} {f : α → List UInt8} {B : Nat} : ∀ {l : List α},(∀ x ∈ l,(f x).length ≤ B) → (l.flatMap f).length ≤ l.length * B
  | [],_=>by simp
  | x :: l,h=>by
    have h1:=h x (List.mem_cons_self ..)
    have h2:=Hh (l:=l) fun y hy=>h y (List.mem_cons_of_mem _ hy)
    rw [List.flatMap_cons,List.length_append,List.length_cons,Nat.succ_mul];omega
theorem Znf (x : GPagePlan) (hx : 0 ≤ x.Rights ∧ x.Rights ≤ 7 ∧ x.Init.size ≤ 64) : Kc (wr []) x=some (wr (Zc8 x)):=by
  obtain⟨h0,h1,h2⟩:=hx
  have c : x.Init.size ≤ 9223372036854775807:=by omega
  have e : x.Init.data.toList.length=x.Init.size:=rfl
  have u:=Zhg (n:=x.Rights) [] (by simp) h0 (by omega)
  have v:=Zl3 ([] ++ be x.Rights 1) x.Init.data.toList (by simp [Vr];omega)
  simp only [Kc,u,v,chk,c,if_true,Option.bind_some]
  simp only [List.nil_append,Zc8]
theorem Zng (x : GProcPlan) (hx : 0 ≤ x.Prio ∧ x.Prio ≤ 255 ∧ 0 ≤ x.Entry ∧ x.Entry < 2048) : Kd (wr []) x=some (wr (Zdu x)):=by
  obtain⟨h0,h1,h2,h3⟩:=hx
  have u:=Zl2 (n:=x.Entry) [] (by simp) h2 (by omega)
  have v:=Zhg (n:=x.Prio) ([] ++ be x.Entry 4) (by simp [Vr]) h0 h1
  have z:=Zl4 ([] ++ be x.Entry 4 ++ be x.Prio 1) x.Auto (by simp [Vr])
  simp only [Kd,u,v,z,Option.bind_some]
  simp only [List.nil_append,List.append_assoc,Zdu]
theorem Znh (x : GPortPlan) (hx : 1 ≤ x.Kind ∧ x.Kind ≤ 4 ∧ 1 ≤ x.Size ∧ x.Size ≤ 32 ∧ 1 ≤ x.Depth ∧ x.Depth ≤ 8 ∧ 0 ≤ x.Refresh ∧ x.Refresh ≤ 255) : Ke (wr []) x=some (wr (Zeq x)):=by
  have u1:=Zhg (n:=x.Kind) [] (by simp) (by omega) (by omega)
  have u2:=Zhg (n:=x.Size) ([] ++ be x.Kind 1) (by simp [Vr]) (by omega) (by omega)
  have u3:=Zhg (n:=x.Depth) ([] ++ be x.Kind 1 ++ be x.Size 1) (by simp [Vr]) (by omega) (by omega)
  have u4:=Zhg (n:=x.Refresh) ([] ++ be x.Kind 1 ++ be x.Size 1 ++ be x.Depth 1) (by simp [Vr]) (by omega) (by omega)
  simp only [Ke,u1,u2,u3,u4,Option.bind_some]
  simp only [List.nil_append,List.append_assoc,Zeq]
theorem Zhi {p : GPlan} (ok : OkK p) : Wv p=some (wr (Zaa p)):=by
  have e0 : Je=some (wr []):=rfl
  have b1 : ∀ x ∈ p.Pages,(Zcu 1 (Zc8 x)).length ≤ 68:=fun x hx=>by have:=ok.pag x hx;rw [Tu,Zer];omega
  have b2 : ∀ x ∈ p.Procs,(Zcu 2 (Zdu x)).length ≤ 9:=fun x hx=>by rw [Tu,Zes];omega
  have b3 : ∀ x ∈ p.Ports,(Zcu 3 (Zeq x)).length ≤ 7:=fun x hx=>by rw [Tu,Zet];omega
  have b5 : ∀ x ∈ p.Sems,(Zne x).length ≤ 1:=fun x hx=>by rw [Zne,Vr];omega
  have l1:=Hh b1
  have l2:=Hh b2
  have l3:=Hh b3
  have l5:=Hh b5
  have k1:=ok.pg1;have k2:=ok.pr1;have k3:=ok.po1;have k5:=ok.se1
  have hA:=Zd2 (L:=Kq p) (l:=p.Pages) (f:=fun x=>Zcu 1 (Zc8 x)) 68 10000 (fun i x a hi hx ha=>by
    have hb:=ok.pag x (List.mem_of_getElem? hx)
    have hr:=Zao (t:=1) (f:=fun x0=>Kc x0 x) (b:=Zc8 x) (Znf x hb) a (by omega) (by decide) (by decide) (by rw [Zer];omega)
    simp only [Kq,hi,hx,hr,decide_true,cond_true,Option.bind_some]) (fun a=>by simp [Kq]) b1 [] (by simp;omega)
  rw [List.nil_append] at hA
  have hB:=Zd2 (L:=Kp p) (l:=p.Procs) (f:=fun x=>Zcu 2 (Zdu x)) 9 10000 (fun i x a hi hx ha=>by
    have hb:=ok.prio x (List.mem_of_getElem? hx)
    have hr:=Zao (t:=2) (f:=fun x0=>Kd x0 x) (b:=Zdu x) (Zng x ⟨hb.1,hb.2.1,hb.2.2.1,hb.2.2.2.1⟩) a (by omega) (by decide) (by decide) (by rw [Zes];omega)
    simp only [Kp,hi,hx,hr,decide_true,cond_true,Option.bind_some]) (fun a=>by simp [Kp]) b2 (p.Pages.flatMap (fun x=>Zcu 1 (Zc8 x))) (by omega)
  have hC:=Zd2 (L:=Ko p) (l:=p.Ports) (f:=fun x=>Zcu 3 (Zeq x)) 7 10000 (fun i x a hi hx ha=>by
    have hb:=ok.dep x (List.mem_of_getElem? hx)
    have hr:=Zao (t:=3) (f:=fun x0=>Ke x0 x) (b:=Zeq x) (Znh x hb.2) a (by omega) (by decide) (by decide) (by rw [Zet];omega)
    simp only [Ko,hi,hx,hr,decide_true,cond_true,Option.bind_some]) (fun a=>by simp [Ko]) b3 (p.Pages.flatMap (fun x=>Zcu 1 (Zc8 x)) ++ p.Procs.flatMap (fun x=>Zcu 2 (Zdu x))) (by rw [List.length_append];omega)
  have hD : Kf (wr []) p=some (wr (be p.Events 1)):=by
    have u:=Zhg (n:=p.Events) [] (by simp) ok.ev0 (by have:=ok.ev1;omega)
    simp only [Kf,u,Option.bind_some,List.nil_append]
  have hE : Kg (wr []) p=some (wr (p.Sems.flatMap Zne)):=by
    have h:=Zd2 (L:=Jn p) (l:=p.Sems) (f:=Zne) 1 10000 (fun i x a hi hx ha=>by
      have hb:=ok.sem x (List.mem_of_getElem? hx)
      have hr:=Zhg (n:=x) a (by omega) hb.1 hb.2
      simp only [Jn,hi,hx,hr,decide_true,cond_true,Option.bind_some,Zne]) (fun a=>by simp [Jn]) b5 [] (by simp;omega)
    simp only [Kg,h,Option.bind_some,List.nil_append]
  have d1:=Zao (t:=4) (f:=fun x0=>Kf x0 p) (b:=be p.Events 1) hD (p.Pages.flatMap (fun x=>Zcu 1 (Zc8 x)) ++ p.Procs.flatMap (fun x=>Zcu 2 (Zdu x)) ++ p.Ports.flatMap (fun x=>Zcu 3 (Zeq x))) (by rw [List.length_append,List.length_append];omega) (by decide) (by decide) (by rw [Vr];omega)
  have d2:=Zao (t:=5) (f:=fun x0=>Kg x0 p) (b:=p.Sems.flatMap Zne) hE (p.Pages.flatMap (fun x=>Zcu 1 (Zc8 x)) ++ p.Procs.flatMap (fun x=>Zcu 2 (Zdu x)) ++ p.Ports.flatMap (fun x=>Zcu 3 (Zeq x)) ++ Zcu 4 (be p.Events 1)) (by simp only [List.length_append,Tu,Vr];omega) (by decide) (by decide) (by omega)
  simp only [Wv,e0,hA,hB,hC,d1,d2,Option.bind_some]
  simp only [Zaa,List.append_assoc]
theorem Gu {p : GPlan} (ok : OkK p) : (Zaa p).length ≤ 4000:=by
  have b1 : ∀ x ∈ p.Pages,(Zcu 1 (Zc8 x)).length ≤ 68:=fun x hx=>by have:=ok.pag x hx;rw [Tu,Zer];omega
  have b2 : ∀ x ∈ p.Procs,(Zcu 2 (Zdu x)).length ≤ 9:=fun x hx=>by rw [Tu,Zes];omega
  have b3 : ∀ x ∈ p.Ports,(Zcu 3 (Zeq x)).length ≤ 7:=fun x hx=>by rw [Tu,Zet];omega
  have b5 : ∀ x ∈ p.Sems,(Zne x).length ≤ 1:=fun x hx=>by rw [Zne,Vr];omega
  have l1:=Hh b1
  have l2:=Hh b2
  have l3:=Hh b3
  have l5:=Hh b5
  have k1:=ok.pg1;have k2:=ok.pr1;have k3:=ok.po1;have k5:=ok.se1
  simp only [Zaa,List.length_append,Tu,Vr];omega
def Gv : List UInt8:=[Qq 70,Qq 80,Qq 76,Qq 78]
def Zhj (p : GPlan) : List UInt8:=Gv ++ (be 1 2 ++ (be (((15 + (Zaa p).length + 4 : Nat)) : Int) 4 ++ (be p.Id 4 ++ Zig p.Mobile)))
def Zdv (p : GPlan) : List UInt8:=Zhj p ++ Zaa p
def Zii (z : Int) : List UInt8:=[Qq z,Qq (shR .u32 z 8),Qq (shR .u32 z 16),Qq (shR .u32 z 24)]
def Ql (p : GPlan) : List UInt8:=Zdv p ++ Zii (Zhq (Zdv p))
theorem Zcv (p : GPlan) : (Zhj p).length=15:=by simp [Zhj,Gv,Vr,Zhh]
theorem Zni (b : List UInt8) (h : b.length ≤ 100000000) : Zaj b=some (b ++ Zii (Zhq b)):=by
  have c1 : (([] : List UInt8).length + b.length) * 1 ≤ 140737488355328:=by simp;omega
  have c2 : (([] ++ b).length + (Zii (Zhq b)).length) * 1 ≤ 140737488355328:=by simp [Zii];omega
  have e : Hm (Zhq b)=some (Zii (Zhq b)):=rfl
  simp only [Zaj,Vn,Zif,e,chk,c1,c2,if_true,Option.bind_some]
  rfl
theorem Zbi {p : GPlan} (h : Gg p=.nil) : Ju p=some (Ql p,.nil):=by
  have ok:=Zcs h
  have hl:=Gu ok
  have e0 : Je=some (wr []):=rfl
  have w1 : IntKind.i64.wrap (IntKind.i64.wrap (15 + (((Zaa p).length : Nat) : Int)) + 4)=(((15 + (Zaa p).length + 4 : Nat)) : Int):=by
    rw [Qi (z:=15 + (((Zaa p).length : Nat) : Int)) ⟨by omega,by omega⟩,Qi ⟨by omega,by omega⟩];omega
  have a1:=Zl3 [] Gv (by simp [Gv])
  have a2:=u16_wr (n:=1) ([] ++ Gv) (by simp [Gv]) (by decide) (by decide)
  have a3:=Zl2 (n:=(((15 + (Zaa p).length + 4 : Nat)) : Int)) ([] ++ Gv ++ be 1 2) (by simp [Gv,Vr]) (by omega) (by omega)
  have a4:=Zl2 (n:=p.Id) ([] ++ Gv ++ be 1 2 ++ be (((15 + (Zaa p).length + 4 : Nat)) : Int) 4) (by simp [Gv,Vr]) ok.id0 (by have:=ok.id1;omega)
  have a5:=Zl4 ([] ++ Gv ++ be 1 2 ++ be (((15 + (Zaa p).length + 4 : Nat)) : Int) 4 ++ be p.Id 4) p.Mobile (by simp [Gv,Vr])
  have hh : [] ++ Gv ++ be 1 2 ++ be (((15 + (Zaa p).length + 4 : Nat)) : Int) 4 ++ be p.Id 4 ++ Zig p.Mobile=Zhj p:=by simp only [Zhj,List.append_assoc,List.nil_append]
  rw [hh] at a5
  have a6:=Zl3 (Zhj p) (Zaa p) (by rw [Zcv];omega)
  have a7:=Zih (Zhj p ++ Zaa p) (by rw [List.length_append,Zcv];omega)
  have a8:=Zni (Zdv p) (by rw [Zdv,List.length_append,Zcv];omega)
  simp only [Gv] at a1 a2 a3 a4 a5
  simp only [Zdv] at a8
  simp only [Ju,Hp,h,Zhi ok,Zih (Zaa p) (by omega),e0,w1,a1,a2,a3,a4,a5,a6,a7,a8,decide_true,Bool.not_true,cond_false,Option.bind_some,Ql,Zdv]
def Yj : GPlan:=⟨3,true,[(⟨5,⟨#[97,98]⟩⟩ : GPagePlan),(⟨3,⟨#[]⟩⟩ : GPagePlan)],[(⟨0,7,true⟩ : GProcPlan),(⟨64,9,false⟩ : GProcPlan)],[(⟨1,4,1,2⟩ : GPortPlan),(⟨4,8,2,0⟩ : GPortPlan)],1,[2]⟩
theorem Tl : Gg Yj=.nil:=by kernel_rfl
theorem Zij : Zbx Yj=363:=by kernel_rfl
theorem Zhk : (Ql Yj).length=69:=by kernel_rfl
theorem Zj7 : Zea ((Ql Yj).take 15)=⟨#[70,80,76,78,0,1,0,0,0,69,0,0,0,3,1]⟩:=by kernel_rfl
theorem Zl6 : Gg ⟨3,true,Yj.Pages,Yj.Procs.set 1 ⟨66,9,false⟩,Yj.Ports,1,[2]⟩=.pl 1 Jf:=by kernel_rfl
theorem Zik (p : GPlan) : Gr p=some (if Gg p=.nil then (Zbx p,.nil) else (0,.v Uz)):=by
  by_cases h : Gg p=.nil <;> simp [Gr,Hp,Zfo,h]
theorem Zeu : Us=some true:=by
  have e0 : Wi=some Yj:=rfl
  have e1:=Zik Yj
  rw [if_pos Tl,Zij] at e1
  have e2:=Zj6 Tl
  have e3:=Zbi Tl
  have e4 : Js Yj=some .nil:=by rw [Hp,Tl]
  have e5 : Js ⟨Yj.Id,Yj.Mobile,Yj.Pages,Yj.Procs.set 1 ⟨66,9,false⟩,Yj.Ports,Yj.Events,Yj.Sems⟩=some (.pl 1 Jf):=by
    rw [Hp];exact congrArg some Zl6
  have f1 : (Zhf Yj).Procs.length=2:=by kernel_rfl
  have f2 : (Zhf Yj).Ready.length=1:=by kernel_rfl
  have f3 : (Zhf Yj).Pages.length=2:=by kernel_rfl
  have f4 : (Zhf Yj).Pages[0]? = some (Zct ⟨5,⟨#[97,98]⟩⟩):=rfl
  have f5 : rdV (Zct ⟨5,⟨#[97,98]⟩⟩).Data 1=some 98:=by kernel_rfl
  have f6 : Yj.Procs[1]? = some ⟨64,9,false⟩:=rfl
  have f7 : (0 : Int) ≤ (15 : Int) ∧ (15 : Int) ≤ (((Ql Yj).length : Nat) : Int):=by rw [Zhk];decide
  have f8 : Zea ((Ql Yj).take (15 : Int).toNat)=⟨#[70,80,76,78,0,1,0,0,0,69,0,0,0,3,1]⟩:=Zj7
  have c4 : (ErrM.pl 1 Jf).code=4:=by rw [cPl,cRange]
  have f10 : (15 : Int) ≤ ((69 : Nat) : Int):=by decide
  have f11 : (0 : Int) ≤ 15:=by decide
  have f9 : (((98 : UInt8).toNat : Nat) : Int)=98:=by decide
  simp only [Us,Ub,Ua,e0,e1,e2,e3,e4,e5,f1,f2,f3,f4,f5,f6,f10,f11,f8,f9,Zhk,c4,pPl,chk,if_true,and_self,decide_true,Bool.not_true,cond_true,cond_false,Option.bind_some]
end Go.Proofs.YtfemfiiagjnhdaaGreatDoor
set_option linter.unusedVariables false
set_option linter.unusedSimpArgs false
set_option linter.unusedSectionVars false
namespace Go.Proofs.YtfemfiiagjnhdaaGreatDoor
open Go Go.RowKit
structure Sees (c : GWireCursor) (l : List UInt8) : Prop where
  ok : OkCur c
  eq : cut c.b_ c.at_.toNat (c.bound_ - c.at_).toNat=l
theorem Zc9 : ∀ (l : List UInt8) (z : Int),l.foldl (fun n b=>n * 256 + (b.toNat : Int)) z=z * 256 ^ l.length + Ya l
  | [],z=>by simp [Ya]
  | c :: r,z=>by
    have h1:=Zc9 r (z * 256 + (c.toNat : Int))
    have h2:=Zc9 r (0 * 256 + (c.toNat : Int))
    have e : Ya (c :: r)=(0 * 256 + (c.toNat : Int)) * 256 ^ r.length + Ya r:=h2
    rw [List.foldl_cons,h1,e,List.length_cons,Int.pow_succ]
    generalize (256 : Int) ^ r.length=t
    rw [Int.add_mul,Int.add_mul,Int.mul_assoc,Int.mul_comm 256 t,Int.zero_mul,Int.zero_mul]
    omega
theorem Zj8 (c : UInt8) (r : List UInt8) : Ya (c :: r)=(c.toNat : Int) * 256 ^ r.length + Ya r:=by
  rw [Ya,List.foldl_cons,Zc9];simp
theorem Zl7 (a k : Nat) (hk : k ≤ 64) : shR .i64 (a : Int) (k : Int)=((a / 2 ^ k : Nat) : Int):=by
  unfold shR
  rw [Int.toNat_natCast,show min k IntKind.i64.bits=k from Nat.min_eq_left hk,Int.fdiv_eq_ediv_of_nonneg _ (Int.le_of_lt (Int.pow_pos (by decide)))]
  simp
theorem Zhl (n : Nat) : ∀ k,k ≤ 8 → Ya (be (n : Int) k)=((n % 256 ^ k : Nat) : Int)
  | 0,_=>by simp [be,Ya,Nat.mod_one]
  | k + 1,hk=>by
    have hb:=Za3 (((n / 2 ^ (8 * k) : Nat) : Int))
    have e2 : (2 : Nat) ^ (8 * k)=256 ^ k:=by rw [Nat.pow_mul]
    rw [be,Zj8,Vr,Zhl n k (by omega),Zl7 _ _ (by omega),hb,e2,Nat.pow_succ,Nat.mod_mul]
    have e3 : (((n / 256 ^ k : Nat) : Int)) % 256=((n / 256 ^ k % 256 : Nat) : Int):=by omega
    rw [e3,Int.natCast_add,Int.natCast_mul,Int.natCast_pow,Int.mul_comm,Int.add_comm]
    rfl
theorem Zjk {n : Int} {k : Nat} {m : Int} (hk : k ≤ 8) (h0 : 0 ≤ n) (h1 : n ≤ m) (hm : m < 256 ^ k) : Ya (be n k)=n:=by
  obtain⟨j,rfl⟩:=Int.eq_ofNat_of_zero_le h0
  rw [Zhl j k hk,Nat.mod_eq_of_lt]
  have : (j : Int) < ((256 ^ k : Nat) : Int):=by rw [Int.natCast_pow];exact Int.lt_of_le_of_lt h1 hm
  omega
abbrev adv (c : GWireCursor) (k : Int) : GWireCursor:=⟨c.b_,c.at_ + k,c.bound_⟩
def Qw (c : GWireCursor) (k : Nat) (lo hi : Int) : Int × ErrM × GWireCursor:=
  if c.bound_ - c.at_ < (k : Int) then (0,.pl c.at_ Kz,c)
  else if Ya (cut c.b_ c.at_.toNat k) < lo ∨ hi < Ya (cut c.b_ c.at_.toNat k) then (0,.pl c.at_ Jf,c)
  else (Ya (cut c.b_ c.at_.toNat k),.nil,adv c k)
theorem Zda (c : GWireCursor) (k : Nat) (lo hi : Int) (hk : k=1 ∨ k=2 ∨ k=4) (h : OkCur c) : Qa c (k : Int) lo hi=some (Qw c k lo hi):=by
  have e1 : Jt c.at_ (.v Kz)=some (.pl c.at_ Kz):=rfl
  have e2 : Jt c.at_ (.v Jf)=some (.pl c.at_ Jf):=rfl
  have e3 : (((!decide ((k : Int)=1)) && (!decide ((k : Int)=2))) && (!decide ((k : Int)=4)))=false:=by rcases hk with rfl | rfl | rfl <;> rfl
  unfold Qw
  by_cases h1 : c.bound_ - c.at_ < (k : Int)
  · simp only [Xc,Qa,e3,cond_false,Yi c h,Option.bind_some,h1,decide_true,cond_true,e1,if_true]
  · have hp:=Zgk c 0 k (by omega) h (by have:=h.bl;omega)
    rw [Nat.add_zero] at hp
    have hp' : Qx c 0 (k : Int)=some (Ya (cut c.b_ c.at_.toNat k),c):=hp
    have hw : IntKind.i64.wrap (c.at_ + (k : Int))=c.at_ + (k : Int):=by
      obtain⟨k1,k2,k3,k4⟩:=h
      exact Qi ⟨by omega,by omega⟩
    by_cases h2 : Ya (cut c.b_ c.at_.toNat k) < lo
    · simp only [Xc,Qa,e3,cond_false,Yi c h,Option.bind_some,h1,hp',h2,e2,decide_true,decide_false,Bool.true_or,cond_true,true_or,if_true,if_false]
    · by_cases h3 : hi < Ya (cut c.b_ c.at_.toNat k)
      · simp only [Xc,Qa,e3,cond_false,Yi c h,Option.bind_some,h1,hp',h2,h3,e2,decide_true,decide_false,Bool.or_true,cond_true,or_true,if_true,if_false]
      · simp only [Xc,Qa,e3,cond_false,Yi c h,Option.bind_some,h1,hp',h2,h3,hw,decide_false,Bool.or_false,cond_false,or_false,if_false]
theorem Zdj (c : GWireCursor) (h : OkCur c) : Xd c=some (Qw c 1 0 255):=by
  have e:=Zda c 1 0 255 (by omega) h
  simp only [Xc,Xd,Zm9,Option.bind_some]
  rw [show Qa c 1 0 255=_ from e]
  unfold Qw;split
  · rfl
  · split <;> rfl
theorem Zil (c : GWireCursor) (h : OkCur c) : Jo c=some (Qw c 4 0 4294967295):=by
  have e:=Zda c 4 0 4294967295 (by omega) h
  simp only [Xc,Jo,most4,Option.bind_some]
  rw [show Qa c 4 0 4294967295=_ from e]
  unfold Qw;split
  · rfl
  · split <;> rfl
def Zl8 (c : GWireCursor) : Bool × ErrM × GWireCursor:=(decide ((Qw c 1 0 1).1=1),(Qw c 1 0 1).2.1,(Qw c 1 0 1).2.2)
theorem Zjl (c : GWireCursor) (h : OkCur c) : Ka c=some (Zl8 c):=by
  have e:=Zda c 1 0 1 (by omega) h
  simp only [Xc,Ka]
  rw [show Qa c 1 0 1=_ from e]
  unfold Zl8 Qw;split
  · rfl
  · split <;> rfl
theorem Kr {c : GWireCursor} {k : Nat} {lo hi : Int} (h : OkCur c) : OkCur (Qw c k lo hi).2.2 ∧ (Qw c k lo hi).2.2.b_=c.b_ ∧ (Qw c k lo hi).2.2.bound_=c.bound_ ∧ c.at_ ≤ (Qw c k lo hi).2.2.at_:=by
  have ok:=h
  obtain⟨k1,k2,k3,k4⟩:=h
  unfold Qw;split
  · exact⟨ok,rfl,rfl,Int.le_refl _⟩
  · split
    · exact⟨ok,rfl,rfl,Int.le_refl _⟩
    · exact⟨⟨by simp only;omega,by simp only;omega,k3,k4⟩,rfl,rfl,by simp only;omega⟩
def Zj9 (c : GWireCursor) (n : Nat) : List UInt8 × ErrM × GWireCursor:=
  if c.bound_ - c.at_ < (n : Int) then ([],.pl c.at_ Kz,c) else (cut c.b_ c.at_.toNat n,.nil,adv c n)
theorem Zim (c : GWireCursor) (n : Nat) (h : OkCur c) : Xf c (n : Int)=some (Zj9 c n):=by
  have e1 : Jt c.at_ (.v Kz)=some (.pl c.at_ Kz):=rfl
  have e0 : ¬ (n : Int) < 0:=by omega
  unfold Zj9
  by_cases h1 : c.bound_ - c.at_ < (n : Int)
  · simp only [Xc,Xf,e0,cond_false,Yi c h,Option.bind_some,h1,decide_true,decide_false,cond_true,e1,if_true]
  · have ok:=h
    obtain⟨k1,k2,k3,k4⟩:=h
    have hw : IntKind.i64.wrap (c.at_ + (n : Int))=c.at_ + (n : Int):=Qi ⟨by omega,by omega⟩
    have hc : 0 ≤ c.at_ ∧ c.at_ ≤ c.at_ + (n : Int) ∧ c.at_ + (n : Int) ≤ ((c.b_.length : Nat) : Int):=⟨k1,by omega,by omega⟩
    have hn : (c.at_ + (n : Int)).toNat - c.at_.toNat=n:=by omega
    have hl:=Zlz (b:=c.b_) (a:=c.at_.toNat) (n:=n) (by omega)
    have hcl : Xb ((c.b_.drop c.at_.toNat).take n)=some (cut c.b_ c.at_.toNat n):=by
      have c1 : (([] : List UInt8).length + ((c.b_.drop c.at_.toNat).take n).length) * 1 ≤ 140737488355328:=by
        rw [show (c.b_.drop c.at_.toNat).take n=cut c.b_ c.at_.toNat n from rfl,hl];simp only [List.length_nil];omega
      simp only [Xb,chk,c1,if_true,List.nil_append];rfl
    simp only [Xc,Xf,e0,cond_false,Yi c ok,Option.bind_some,h1,hw,hc,hn,hcl,chk,and_self,decide_false,if_true,if_false]
theorem Zin {c : GWireCursor} {n : Nat} (h : OkCur c) : OkCur (Zj9 c n).2.2 ∧ (Zj9 c n).2.2.b_=c.b_ ∧ (Zj9 c n).2.2.bound_=c.bound_ ∧ c.at_ ≤ (Zj9 c n).2.2.at_ ∧ (Zj9 c n).1.length ≤ n:=by
  have ok:=h
  obtain⟨k1,k2,k3,k4⟩:=h
  unfold Zj9;split
  · exact⟨ok,rfl,rfl,Int.le_refl _,Nat.zero_le _⟩
  · exact⟨⟨by simp only;omega,by simp only;omega,k3,k4⟩,rfl,rfl,by simp only;omega,Zji _ _ _⟩
def endS (c : GWireCursor) : ErrM × GWireCursor:=if 0 < c.bound_ - c.at_ then (.pl c.at_ Zjx,c) else (.nil,c)
theorem Zio (c : GWireCursor) (h : OkCur c) : Xx c=some (endS c):=by
  have e1 : Jt c.at_ (.v Zjx)=some (.pl c.at_ Zjx):=rfl
  unfold endS
  by_cases h1 : 0 < c.bound_ - c.at_
  · simp only [Xc,Xx,Yi c h,Option.bind_some,h1,decide_true,cond_true,e1,if_true]
  · simp only [Xc,Xx,Yi c h,Option.bind_some,h1,decide_false,cond_false,if_false]
end Go.Proofs.YtfemfiiagjnhdaaGreatDoor
set_option linter.unusedVariables false
set_option linter.unusedSimpArgs false
set_option linter.unusedSectionVars false
namespace Go.Proofs.YtfemfiiagjnhdaaGreatDoor
open Go Go.RowKit
section
variable {α : Type}
theorem Zev (q : α → Bool) : ∀ (l : List α) (k : Nat),Jw (fun _ x=>if q x=true then none else some false) k l=if l.all q=true then none else some false
  | [],_=>rfl
  | x :: r,k=>by
    have ih:=Zev q r (k + 1)
    rcases Bool.eq_false_or_eq_true (q x) with h|h <;> simp [Jw,h,ih]
theorem Zl9 {L : Nat → Option (Nat ⊕ (Unit ⊕ Bool))} {a b : List α} (q : α → α → Bool) (hl : a.length=b.length)
    (h : ∀ i x y,i < a.length → a[i]? = some x → b[i]? = some y → L i=some (if q x y=true then .inl (i + 1) else .inr (.inr false))) (h2 : L a.length=some (.inr (.inl ()))) :
    Uj L 0=some (if (a.zip b).all (fun p=>q p.1 p.2)=true then .inl () else .inr false):=by
  have hz : (a.zip b).length=a.length:=by rw [List.length_zip,← hl,Nat.min_self]
  have hL:=Wx (L:=L) (l:=a.zip b) (f:=fun _ p=>if q p.1 p.2=true then none else some false) (fun i p hi hp=>by
    obtain⟨h3,h4⟩:=List.getElem?_zip_eq_some.1 hp
    rw [h i p.1 p.2 (by omega) h3 h4,Zgj,Zbh,Tt]) (by rw [hz];exact h2)
  rw [hL,Zev (fun p : α × α=>q p.1 p.2)]
  split <;> rfl
theorem Zip [DecidableEq α] : ∀ {a b : List α},a.length=b.length → (((a.zip b).all fun p=>decide (p.1=p.2))=true ↔ a=b)
  | [],[],_=>by simp
  | [],y :: b,h=>by simp at h
  | x :: a,[],h=>by simp at h
  | x :: a,y :: b,h=>by
    have ih:=Zip (a:=a) (b:=b) (by simpa using h)
    simp only [List.zip_cons_cons,List.all_cons,Bool.and_eq_true,decide_eq_true_eq,List.cons.injEq,ih]
theorem Znj {L : Nat → Option (Nat ⊕ (Unit ⊕ Bool))} {a b : List α} [DecidableEq α] (hl : a.length=b.length)
    (h : ∀ i x y,i < a.length → a[i]? = some x → b[i]? = some y → L i=some (if decide (x=y)=true then .inl (i + 1) else .inr (.inr false))) (h2 : L a.length=some (.inr (.inl ()))) :
    Uj L 0=some (if a=b then .inl () else .inr false):=by
  rw [Zl9 (fun x y=>decide (x=y)) hl h h2]
  congr 1
  by_cases e : a=b
  · rw [if_pos e,if_pos ((Zip hl).2 e)]
  · rw [if_neg e,if_neg (fun h=>e ((Zip hl).1 h))]
end
theorem Zpn {α : Type} {a b : List α} (h : ¬ a.length=b.length) : ¬ a=b:=fun e=>h (by rw [e])
abbrev Zhm : Nat:=140737488355328
def Zew (p : GPlan) : Prop:=p.Pages.length * 24 ≤ Zhm ∧ p.Procs.length * 24 ≤ Zhm ∧ p.Ports.length * 32 ≤ Zhm ∧ p.Sems.length * 8 ≤ Zhm
theorem Zhn (p : GPlan) (h : Zew p) : Ho p=some p:=by
  obtain⟨h1,h2,h3,h4⟩:=h
  simp only [Zhm] at *
  simp only [Ho,List.nil_append,List.length_nil,Nat.zero_add,chk,h1,h2,h3,h4,if_true]
end Go.Proofs.YtfemfiiagjnhdaaGreatDoor
set_option linter.unusedVariables false
set_option linter.unusedSimpArgs false
set_option linter.unusedSectionVars false
namespace Go.Proofs.YtfemfiiagjnhdaaGreatDoor
open Go Go.RowKit
def Zma : Nat:=3988292384
def stepN (x : Nat) : Nat:=if x % 2=1 then (x / 2) ^^^ Zma else x / 2
def itN : Nat → Nat → Nat
  | 0,x=>x
  | k + 1,x=>itN k (stepN x)
theorem Znk (a b : Nat) : (a ^^^ b) / 2=(a / 2) ^^^ (b / 2):=by
  apply Nat.eq_of_testBit_eq
  intro i
  rw [Nat.testBit_xor,Nat.testBit_div_two,Nat.testBit_div_two,Nat.testBit_div_two,Nat.testBit_xor]
theorem Zpo (a b : Nat) : (a ^^^ b) % 2=(a + b) % 2:=by
  have h0:=Nat.testBit_xor a b 0
  rw [Nat.testBit_zero,Nat.testBit_zero,Nat.testBit_zero] at h0
  have hm : (a + b) % 2=(a % 2 + b % 2) % 2:=Nat.add_mod a b 2
  have hz:=Nat.mod_two_eq_zero_or_one (a ^^^ b)
  generalize (a ^^^ b) % 2=z at *
  rcases Nat.mod_two_eq_zero_or_one a with ha|ha <;> rcases Nat.mod_two_eq_zero_or_one b with hb|hb <;> rw [ha,hb] at h0 hm <;> rw [hm] <;> rcases hz with rfl|rfl <;> simp at h0 ⊢
theorem Zmb (a b : Nat) : stepN (a ^^^ b)=stepN a ^^^ stepN b:=by
  unfold stepN
  rw [Znk,Zpo]
  rcases Nat.mod_two_eq_zero_or_one a with ha|ha <;> rcases Nat.mod_two_eq_zero_or_one b with hb|hb
  · rw [if_neg (by omega),if_neg (by omega),if_neg (by omega)]
  · rw [if_pos (by omega),if_neg (by omega),if_pos (by omega),Nat.xor_assoc]
  · rw [if_pos (by omega),if_pos (by omega),if_neg (by omega),Nat.xor_assoc,Nat.xor_assoc,Nat.xor_comm Zma]
  · rw [if_neg (by omega),if_pos (by omega),if_pos (by omega),Nat.xor_assoc,← Nat.xor_assoc Zma,Nat.xor_comm Zma (b / 2),Nat.xor_assoc (b / 2),Nat.xor_self,Nat.xor_zero]
theorem Zex : ∀ (k a b : Nat),itN k (a ^^^ b)=itN k a ^^^ itN k b
  | 0,_,_=>rfl
  | k + 1,a,b=>by rw [itN,Zmb,Zex k];rfl
theorem Ziq : ∀ (j k x : Nat),itN (j + k) x=itN k (itN j x)
  | 0,k,x=>by rw [Nat.zero_add];rfl
  | j + 1,k,x=>by rw [Nat.succ_add,itN,Ziq j k];rfl
theorem Zdb : ∀ (k x : Nat),itN k (2 ^ k * x)=x
  | 0,x=>by rw [Nat.pow_zero,Nat.one_mul];rfl
  | k + 1,x=>by
    have e : 2 ^ (k + 1) * x=2 * (2 ^ k * x):=by rw [Nat.pow_succ];rw [Nat.mul_comm (2 ^ k) 2,Nat.mul_assoc]
    have h : stepN (2 ^ (k + 1) * x)=2 ^ k * x:=by
      unfold stepN
      rw [if_neg (by rw [e];omega),e,Nat.mul_div_cancel_left _ (by decide)]
    rw [itN,h,Zdb k x]
theorem Hi {x : Nat} (h : x < 4294967296) : stepN x < 4294967296:=by
  unfold stepN
  split
  · exact Nat.xor_lt_two_pow (n:=32) (by omega) (by decide)
  · omega
theorem Zmc : ∀ (k : Nat) {x : Nat},x < 4294967296 → itN k x < 4294967296
  | 0,_,h=>h
  | k + 1,_,h=>Zmc k (Hi h)
theorem Znl {x : Nat} (h : x < 4294967296) (h0 : x ≠ 0) : stepN x ≠ 0:=by
  unfold stepN
  split
  · intro e
    have ht : ((x / 2) ^^^ Zma).testBit 31=true:=by
      rw [Nat.testBit_xor,Nat.testBit_lt_two_pow (show x / 2 < 2 ^ 31 by omega)]
      decide
    rw [e] at ht
    simp at ht
  · omega
theorem Zog : ∀ (k : Nat) {x : Nat},x < 4294967296 → x ≠ 0 → itN k x ≠ 0
  | 0,_,_,h0=>h0
  | k + 1,_,h,h0=>Zog k (Hi h) (Znl h h0)
theorem Znm (k at_ m : Nat) (hm : m < 4294967296) (h0 : m ≠ 0) : itN k (2 ^ at_ * m) ≠ 0:=by
  by_cases h : at_ ≤ k
  · have e : k=at_ + (k - at_):=by omega
    rw [e,Ziq,Zdb]
    exact Zog _ hm h0
  · have e : 2 ^ at_ * m=2 ^ k * (2 ^ (at_ - k) * m):=by
      rw [← Nat.mul_assoc,← Nat.pow_add,show k + (at_ - k)=at_ by omega]
    rw [e,Zdb]
    exact Nat.mul_ne_zero (Nat.pos_iff_ne_zero.1 (Nat.two_pow_pos _)) h0
def Zby : List UInt8 → Nat
  | []=>0
  | c :: r=>c.toNat ^^^ (2 ^ 8 * Zby r)
theorem Zd3 : ∀ (a b : List UInt8),Zby (a ++ b)=Zby a ^^^ (2 ^ (8 * a.length) * Zby b)
  | [],b=>by simp [Zby]
  | c :: r,b=>by
    rw [List.cons_append,Zby,Zd3 r b,Zby,List.length_cons,Nat.xor_assoc]
    congr 1
    rw [show 8 * (r.length + 1)=8 + 8 * r.length by omega,Nat.pow_add,Nat.mul_assoc]
    exact mul_xor 8 _ _
where
  mul_xor (k a b : Nat) : 2 ^ k * (a ^^^ b)=(2 ^ k * a) ^^^ (2 ^ k * b):=by
    apply Nat.eq_of_testBit_eq
    intro i
    rw [Nat.testBit_xor,Nat.testBit_two_pow_mul,Nat.testBit_two_pow_mul,Nat.testBit_two_pow_mul,Nat.testBit_xor]
    cases decide (i ≥ k) <;> simp
def moveN (z : Nat) (c : UInt8) : Nat:=itN 8 (z ^^^ c.toNat)
theorem Zjm : ∀ (l : List UInt8) (z : Nat),l.foldl moveN z=itN (8 * l.length) (z ^^^ Zby l)
  | [],z=>by simp [Zby,itN]
  | c :: r,z=>by
    rw [List.foldl_cons,Zjm r,Zby,List.length_cons,show 8 * (r.length + 1)=8 + 8 * r.length by omega,Ziq]
    congr 1
    rw [← Nat.xor_assoc,Zex,Zdb]
    rfl
theorem Znn {z : Nat} (c : UInt8) (h : z < 4294967296) : moveN z c < 4294967296:=Zmc 8 (Nat.xor_lt_two_pow (n:=32) h (by have:=c.toNat_lt;omega))
theorem Zgl {x : Nat} (h : x < 4294967296) : IntKind.u32.wrap (x : Int)=(x : Int):=by
  have : IntKind.u32.wrap (x : Int)=(x : Int) % 4294967296:=by simp [IntKind.wrap,IntKind.signed,IntKind.bits]
  rw [this];omega
theorem Zgm (x : Nat) : IntKind.u8.wrap (x : Int)=((x % 256 : Nat) : Int):=by
  have : IntKind.u8.wrap (x : Int)=(x : Int) % 256:=by simp [IntKind.wrap,IntKind.signed,IntKind.bits]
  rw [this];omega
theorem Zdc {a b : Nat} (ha : a < 4294967296) (hb : b < 4294967296) : Yr .u32 (a : Int) (b : Int)=((a ^^^ b : Nat) : Int):=by
  have h : (BitVec.ofInt IntKind.u32.bits (a : Int) ^^^ BitVec.ofInt IntKind.u32.bits (b : Int)).toNat=a ^^^ b:=by
    rw [show IntKind.u32.bits=32 from rfl,BitVec.toNat_xor,BitVec.ofInt_natCast,BitVec.ofInt_natCast,BitVec.toNat_ofNat,BitVec.toNat_ofNat,Nat.mod_eq_of_lt (by omega),Nat.mod_eq_of_lt (by omega)]
  unfold Yr
  rw [h]
  exact Zgl (Nat.xor_lt_two_pow (n:=32) ha hb)
theorem Zey {a b : Nat} (ha : a < 256) (hb : b < 256) : Yr .u8 (a : Int) (b : Int)=((a ^^^ b : Nat) : Int):=by
  have h : (BitVec.ofInt IntKind.u8.bits (a : Int) ^^^ BitVec.ofInt IntKind.u8.bits (b : Int)).toNat=a ^^^ b:=by
    rw [show IntKind.u8.bits=8 from rfl,BitVec.toNat_xor,BitVec.ofInt_natCast,BitVec.ofInt_natCast,BitVec.toNat_ofNat,BitVec.toNat_ofNat,Nat.mod_eq_of_lt (by omega),Nat.mod_eq_of_lt (by omega)]
  unfold Yr
  rw [h,Zgm,Nat.mod_eq_of_lt (Nat.xor_lt_two_pow (n:=8) ha hb)]
theorem Zir {a : Nat} (ha : a < 4294967296) : Zed .u32 (a : Int) 1=((a % 2 : Nat) : Int):=by
  have h : (BitVec.ofInt IntKind.u32.bits (a : Int) &&& BitVec.ofInt IntKind.u32.bits 1).toNat=a % 2:=by
    rw [show IntKind.u32.bits=32 from rfl,BitVec.toNat_and,BitVec.ofInt_natCast,show (1 : Int)=((1 : Nat) : Int) from rfl,BitVec.ofInt_natCast,BitVec.toNat_ofNat,BitVec.toNat_ofNat,Nat.mod_eq_of_lt (by omega),show 1 % 2 ^ 32=1 from by decide,Nat.and_one_is_mod]
  unfold Zed
  rw [h]
  exact Zgl (by omega)
theorem Zez (a k : Nat) (hk : k ≤ 32) : shR .u32 (a : Int) (k : Int)=((a / 2 ^ k : Nat) : Int):=by
  unfold shR
  rw [Int.toNat_natCast,show min k IntKind.u32.bits=k from Nat.min_eq_left hk,Int.fdiv_eq_ediv_of_nonneg _ (Int.le_of_lt (Int.pow_pos (by decide)))]
  simp
theorem Gw {x : Nat} (h : x < 4294967296) : Zc7 (x : Int)=(stepN x : Int):=by
  unfold Zc7 stepN
  have h1:=Zez x 1 (by decide)
  rw [Zir h,show (1 : Int)=((1 : Nat) : Int) from rfl,h1,Nat.pow_one]
  by_cases e : x % 2=1
  · rw [if_pos (by omega),if_pos e]
    exact Zdc (by omega) (by decide)
  · rw [if_neg (by omega),if_neg e]
theorem Zno {x : Nat} (h : x < 4294967296) : Znb (x : Int)=(itN 8 x : Int):=by
  unfold Znb
  have l1:=Hi h
  have l2:=Hi l1
  have l3:=Hi l2
  have l4:=Hi l3
  have l5:=Hi l4
  have l6:=Hi l5
  have l7:=Hi l6
  rw [Gw h,Gw l1,Gw l2,Gw l3,Gw l4,Gw l5,Gw l6,Gw l7]
  rfl
theorem Zjn (z : Nat) : z=(z % 256) ^^^ (2 ^ 8 * (z / 256)):=by
  apply Nat.eq_of_testBit_eq
  intro i
  rw [Nat.testBit_xor,show (256 : Nat)=2 ^ 8 from rfl,Nat.testBit_mod_two_pow,Nat.testBit_two_pow_mul,Nat.testBit_div_two_pow]
  by_cases h : i < 8
  · simp [h,show ¬ 8 ≤ i by omega]
  · simp [h,show 8 ≤ i by omega,show i - 8 + 8=i by omega]
theorem Zmd {z : Nat} (c : UInt8) (h : z < 4294967296) : Zie (z : Int) c=(moveN z c : Int):=by
  have hc:=c.toNat_lt
  have hx : (z % 256) ^^^ c.toNat < 256:=Nat.xor_lt_two_pow (n:=8) (by omega) (by omega)
  have hs : shR .u32 (z : Int) 8=((z / 256 : Nat) : Int):=Zez z 8 (by decide)
  unfold Zie
  rw [Zgm,Zey (by omega) (by omega),Zgl (by omega),Zno (by omega),hs,Zdc (Zmc 8 (by omega)) (by omega)]
  congr 1
  unfold moveN
  conv=>rhs;rw [Zjn z,Nat.xor_assoc,Nat.xor_comm _ c.toNat,← Nat.xor_assoc,Zex,Zdb]
theorem Zgn : ∀ (l : List UInt8) {z : Nat},z < 4294967296 → l.foldl Zie (z : Int)=((l.foldl moveN z : Nat) : Int) ∧ l.foldl moveN z < 4294967296
  | [],_,h=>⟨rfl,h⟩
  | c :: r,z,h=>by
    rw [List.foldl_cons,List.foldl_cons,Zmd c h]
    exact Zgn r (Znn c h)
def regN (b : List UInt8) : Nat:=b.foldl moveN 4294967295
theorem Zis (b : List UInt8) : regN b < 4294967296:=(Zgn b (by decide)).2
theorem Znp {r : Nat} (h : r < 4294967296) : Zmh .u32 (r : Int)=((4294967295 ^^^ r : Nat) : Int):=by
  have e : Zmh .u32 (r : Int)=Yr .u32 ((4294967295 : Nat) : Int) (r : Int):=rfl
  rw [e]
  exact Zdc (by decide) h
def sumN (b : List UInt8) : Nat:=4294967295 ^^^ regN b
theorem Zpp (b : List UInt8) : sumN b < 4294967296:=Nat.xor_lt_two_pow (n:=32) (by decide) (Zis b)
theorem Znq (b : List UInt8) : Zhq b=((sumN b : Nat) : Int):=by
  unfold Zhq
  have h0 : Zmh .u32 0=((4294967295 : Nat) : Int):=by decide
  obtain⟨h1,h2⟩:=Zgn b (z:=4294967295) (by decide)
  rw [h0,h1]
  exact Znp (Zis b)
def Zgo (z : Int) : List UInt8:=[Qq z,Qq (shR .u32 z 8),Qq (shR .u32 z 16),Qq (shR .u32 z 24)]
theorem Zfq (x : Nat) : (Qq (x : Int)).toNat=x % 256:=by
  have:=Za3 (x : Int)
  omega
theorem Znr {s : Nat} (h : s < 4294967296) : Zby (Zgo (s : Int))=s:=by
  have e1 : shR .u32 (s : Int) 8=((s / 256 : Nat) : Int):=Zez s 8 (by decide)
  have e2 : shR .u32 (s : Int) 16=((s / 65536 : Nat) : Int):=Zez s 16 (by decide)
  have e3 : shR .u32 (s : Int) 24=((s / 16777216 : Nat) : Int):=Zez s 24 (by decide)
  unfold Zgo
  rw [e1,e2,e3]
  simp only [Zby,Zfq,Nat.mul_zero,Nat.xor_zero]
  have a1:=Zjn s
  have a2:=Zjn (s / 256)
  have a3:=Zjn (s / 65536)
  have d1 : s / 256 / 256=s / 65536:=by omega
  have d2 : s / 65536 / 256=s / 16777216:=by omega
  have d3 : s / 16777216 % 256=s / 16777216:=by omega
  rw [d1] at a2
  rw [d2] at a3
  rw [d3,← a3,← a2,← a1]
def Ze0 (s : List UInt8) : Prop:=4 ≤ s.length ∧ s.drop (s.length - 4)=Zgo (Zhq (s.take (s.length - 4)))
theorem Zho {s : List UInt8} (h : Ze0 s) : itN (8 * (s.length - 4)) (4294967295 ^^^ Zby s)=4294967295:=by
  obtain⟨h4,h⟩:=h
  have e : s=s.take (s.length - 4) ++ s.drop (s.length - 4):=(List.take_append_drop _ _).symm
  have hl : (s.take (s.length - 4)).length=s.length - 4:=by rw [List.length_take];omega
  generalize hin : s.take (s.length - 4)=a at *
  rw [h] at e
  have hr:=Zis a
  have hn : Zby s=Zby a ^^^ (2 ^ (8 * a.length) * sumN a):=by
    conv=>lhs;rw [e]
    rw [Zd3,Znq,Znr (Zpp a)]
  rw [hn,← hl,← Nat.xor_assoc,Zex,Zdb,← Zjm]
  show regN a ^^^ (4294967295 ^^^ regN a)=_
  rw [← Nat.xor_assoc,Nat.xor_comm (regN a),Nat.xor_assoc,Nat.xor_self,Nat.xor_zero]
theorem Zfr (b : List UInt8) : Ze0 (b ++ Zgo (Zhq b)):=by
  have h4 : (Zgo (Zhq b)).length=4:=rfl
  have hl : (b ++ Zgo (Zhq b)).length - 4=b.length:=by rw [List.length_append,h4];omega
  refine⟨by rw [List.length_append,h4];omega,?_⟩
  rw [hl,List.drop_left,List.take_left]
theorem Zka {s s' : List UInt8} {k m : Nat} (h : Ze0 s) (h' : Ze0 s') (hl : s'.length=s.length) (hn : Zby s' = Zby s ^^^ (2 ^ k * m)) (hm : m < 4294967296) : m=0:=by
  by_cases h0 : m=0
  · exact h0
  · have e1:=Zho h
    have e2:=Zho h'
    rw [hl,hn,← Nat.xor_assoc,Zex,e1] at e2
    have e3 : itN (8 * (s.length - 4)) (2 ^ k * m)=0:=by
      have:=congrArg (4294967295 ^^^ ·) e2
      simp only [← Nat.xor_assoc,Nat.xor_self,Nat.zero_xor] at this
      exact this
    exact absurd e3 (Znm _ _ _ hm h0)
end Go.Proofs.YtfemfiiagjnhdaaGreatDoor
set_option linter.unusedVariables false
set_option linter.unusedSimpArgs false
set_option linter.unusedSectionVars false
namespace Go.Proofs.YtfemfiiagjnhdaaGreatDoor
open Go Go.RowKit
def lens (p : GPlan) : Nat:=p.Pages.length + p.Procs.length + p.Ports.length + p.Sems.length
theorem tot3 {α β γ : Type} {o : Option (α × β × γ)} (h : o.isSome=true) : ∃ x e d,o=some (x,e,d):=by
  obtain⟨r,hr⟩:=Option.isSome_iff_exists.1 h
  exact⟨r.1,r.2.1,r.2.2,hr⟩
theorem Zns {c : GWireCursor} (h : OkCur c) : ∃ x e d,Ge c=some (x,e,d):=by
  have r1:=Kr (k:=1) (lo:=0) (hi:=255) h
  by_cases e1 : (Qw c 1 0 255).2.1=.nil
  · have hl:=Yi _ r1.1
    have hn : (((Qw c 1 0 255).2.2.bound_ - (Qw c 1 0 255).2.2.at_).toNat : Int)=(Qw c 1 0 255).2.2.bound_ - (Qw c 1 0 255).2.2.at_:=Int.toNat_of_nonneg (by have:=r1.1.ab;omega)
    have hr:=Zim _ ((Qw c 1 0 255).2.2.bound_ - (Qw c 1 0 255).2.2.at_).toNat r1.1
    rw [hn] at hr
    have e2 : (⟨c.b_,(Qw c 1 0 255).2.2.at_,(Qw c 1 0 255).2.2.bound_⟩ : GWireCursor)=(Qw c 1 0 255).2.2:=by rw [← r1.2.1]
    refine tot3 ?_
    simp only [Xc,Ge,Zdj c h,e1,e2,hl,hr,Option.bind_some,decide_true,Bool.not_true,cond_false,Option.isSome_some]
  · refine tot3 ?_
    simp only [Xc,Ge,Zdj c h,e1,Option.bind_some,decide_false,Bool.not_false,cond_true,Option.isSome_some]
theorem Vx {c : GWireCursor} {k : Nat} {lo hi : Int} (h : OkCur c) : (⟨c.b_,(Qw c k lo hi).2.2.at_,(Qw c k lo hi).2.2.bound_⟩ : GWireCursor)=(Qw c k lo hi).2.2:=by
  rw [← (Kr h).2.1]
theorem Znt {c : GWireCursor} (h : OkCur c) : ∃ x e d,Tf c=some (x,e,d):=by
  have r1:=Kr (k:=4) (lo:=0) (hi:=4294967295) h
  have x1:=Vx (k:=4) (lo:=0) (hi:=4294967295) h
  generalize hc1 : Qw c 4 0 4294967295=q1 at r1 x1
  have r2:=Kr (k:=1) (lo:=0) (hi:=255) r1.1
  have x2:=Vx (k:=1) (lo:=0) (hi:=255) r1.1
  have u2:=Zdj _ r1.1
  generalize hc2 : Qw q1.2.2 1 0 255=q2 at r2 x2 u2
  have r3:=Kr (k:=1) (lo:=0) (hi:=1) r2.1
  have x3:=Vx (k:=1) (lo:=0) (hi:=1) r2.1
  have u3:=Zjl _ r2.1
  unfold Zl8 at u3
  generalize hc3 : Qw q2.2.2 1 0 1=q3 at r3 x3 u3
  have u4:=Zio _ r3.1
  rw [r1.2.1] at x2
  rw [r2.2.1,r1.2.1] at x3
  refine tot3 ?_
  simp only [Xc,Tf,Zil c h,hc1,x1,u2,x2,u3,x3,u4,Option.bind_some,Option.isSome_some]
theorem Znu {c : GWireCursor} (h : OkCur c) : ∃ x e d,Uw c=some (x,e,d):=by
  have r1:=Kr (k:=1) (lo:=0) (hi:=255) h
  have x1:=Vx (k:=1) (lo:=0) (hi:=255) h
  generalize hc1 : Qw c 1 0 255=q1 at r1 x1
  have r2:=Kr (k:=1) (lo:=0) (hi:=255) r1.1
  have x2:=Vx (k:=1) (lo:=0) (hi:=255) r1.1
  have u2:=Zdj _ r1.1
  generalize hc2 : Qw q1.2.2 1 0 255=q2 at r2 x2 u2
  have r3:=Kr (k:=1) (lo:=0) (hi:=255) r2.1
  have x3:=Vx (k:=1) (lo:=0) (hi:=255) r2.1
  have u3:=Zdj _ r2.1
  generalize hc3 : Qw q2.2.2 1 0 255=q3 at r3 x3 u3
  have r4:=Kr (k:=1) (lo:=0) (hi:=255) r3.1
  have x4:=Vx (k:=1) (lo:=0) (hi:=255) r3.1
  have u4:=Zdj _ r3.1
  generalize hc4 : Qw q3.2.2 1 0 255=q4 at r4 x4 u4
  have u5:=Zio _ r4.1
  rw [r1.2.1] at x2
  rw [r2.2.1,r1.2.1] at x3
  rw [r3.2.1,r2.2.1,r1.2.1] at x4
  refine tot3 ?_
  simp only [Xc,Uw,Zdj c h,hc1,x1,u2,x2,u3,x3,u4,x4,u5,Option.bind_some,Option.isSome_some]
theorem Zme (q : List UInt8 × ErrM × GWireCursor) (l : List Int) (hb : l.length + q.1.length ≤ 17179869184) : Uj (Vo q) (0,l)=some (l ++ q.1.map fun b=>(b.toNat : Int)):=by
  have key : ∀ m k l,k + m=q.1.length → l.length + m ≤ 17179869184 → Uj (Vo q) (k,l)=some (l ++ (q.1.drop k).map fun b=>(b.toNat : Int)):=by
    intro m
    induction m with
    | zero=>
      intro k l hk _
      rw [List.drop_eq_nil_of_le (by omega),List.map_nil,List.append_nil]
      exact Wz (by simp only [Vo,show ¬ k < q.1.length by omega,decide_false,cond_false])
    | succ m ih=>
      intro k l hk hl
      have hlt : k < q.1.length:=by omega
      have hx : q.1[k]? = some q.1[k]:=List.getElem?_eq_getElem hlt
      have hd : q.1.drop k=q.1[k] :: q.1.drop (k + 1):=List.drop_eq_getElem_cons hlt
      have c1 : (l.length + [((q.1[k]).toNat : Int)].length) * 8 ≤ 140737488355328:=by simp only [List.length_cons,List.length_nil];omega
      rw [Yd (s':=(k + 1,l ++ [((q.1[k]).toNat : Int)])) (by simp only [Vo,hlt,hx,chk,c1,decide_true,cond_true,Option.bind_some,if_true]),ih (k + 1) _ (by omega) (by rw [List.length_append];simp only [List.length_cons,List.length_nil];omega),hd,List.map_cons,List.append_assoc]
      rfl
  exact key q.1.length 0 l (by omega) hb
theorem Zpq {p : GPlan} {t : Int} {c : GWireCursor} (h : OkCur c) (hl : lens p ≤ 8589934592) (hb : c.bound_ - c.at_ ≤ 70000) : ∃ e p' d,Vg p t c=some (e,p',d) ∧ (lens p' : Int) ≤ lens p + 1 + (c.bound_ - c.at_):=by
  have hk:=h.ab
  unfold lens at hl
  by_cases t1 : t=1
  · subst t1
    have t1 : (1 : Int)=1:=rfl
    obtain⟨x,e,d,hp⟩:=Zns h
    have c1 : (p.Pages.length + [x].length) * 24 ≤ 140737488355328:=by simp only [List.length_cons,List.length_nil];omega
    refine⟨e,⟨p.Id,p.Mobile,p.Pages ++ [x],p.Procs,p.Ports,p.Events,p.Sems⟩,⟨c.b_,d.at_,d.bound_⟩,by simp only [Xc,Vg,t1,hp,chk,c1,decide_true,cond_true,Option.bind_some,if_true],?_⟩
    simp only [lens,List.length_append,List.length_cons,List.length_nil];omega
  by_cases t2 : t=2
  · obtain⟨x,e,d,hp⟩:=Znt h
    have c1 : (p.Procs.length + [x].length) * 24 ≤ 140737488355328:=by simp only [List.length_cons,List.length_nil];omega
    refine⟨e,⟨p.Id,p.Mobile,p.Pages,p.Procs ++ [x],p.Ports,p.Events,p.Sems⟩,⟨c.b_,d.at_,d.bound_⟩,by simp only [Xc,Vg,t1,t2,hp,chk,c1,show ¬ (2 : Int)=1 by decide,decide_true,decide_false,cond_true,cond_false,Option.bind_some,if_true],?_⟩
    simp only [lens,List.length_append,List.length_cons,List.length_nil];omega
  by_cases t3 : t=3
  · obtain⟨x,e,d,hp⟩:=Znu h
    have c1 : (p.Ports.length + [x].length) * 32 ≤ 140737488355328:=by simp only [List.length_cons,List.length_nil];omega
    refine⟨e,⟨p.Id,p.Mobile,p.Pages,p.Procs,p.Ports ++ [x],p.Events,p.Sems⟩,⟨c.b_,d.at_,d.bound_⟩,by simp only [Xc,Vg,t1,t2,t3,hp,chk,c1,show ¬ (3 : Int)=1 by decide,show ¬ (3 : Int)=2 by decide,decide_true,decide_false,cond_true,cond_false,Option.bind_some,if_true],?_⟩
    simp only [lens,List.length_append,List.length_cons,List.length_nil];omega
  by_cases t4 : t=4
  · have r1:=Kr (k:=1) (lo:=0) (hi:=255) h
    have x1:=Vx (k:=1) (lo:=0) (hi:=255) h
    generalize hc1 : Qw c 1 0 255=q1 at r1 x1
    have u2:=Zio _ r1.1
    refine⟨Zdm [q1.2.1,(endS q1.2.2).1],⟨p.Id,p.Mobile,p.Pages,p.Procs,p.Ports,q1.1,p.Sems⟩,⟨c.b_,(endS q1.2.2).2.at_,(endS q1.2.2).2.bound_⟩,by simp only [Xc,Vg,t1,t2,t3,t4,Zdj c h,hc1,x1,u2,show ¬ (4 : Int)=1 by decide,show ¬ (4 : Int)=2 by decide,show ¬ (4 : Int)=3 by decide,decide_true,decide_false,cond_true,cond_false,Option.bind_some],?_⟩
    simp only [lens];omega
  by_cases t5 : t=5
  · have hn : ((c.bound_ - c.at_).toNat : Int)=c.bound_ - c.at_:=Int.toNat_of_nonneg (by omega)
    have hr:=Zim c (c.bound_ - c.at_).toNat h
    have ro:=Zin (n:=(c.bound_ - c.at_).toNat) h
    rw [hn] at hr
    generalize Zj9 c (c.bound_ - c.at_).toNat=q at hr ro
    have hs:=Zme q p.Sems (by omega)
    refine⟨q.2.1,⟨p.Id,p.Mobile,p.Pages,p.Procs,p.Ports,p.Events,p.Sems ++ q.1.map fun b=>(b.toNat : Int)⟩,⟨c.b_,q.2.2.at_,q.2.2.bound_⟩,by simp only [Xc,Vg,t1,t2,t3,t4,t5,Yi c h,hr,hs,show ¬ (5 : Int)=1 by decide,show ¬ (5 : Int)=2 by decide,show ¬ (5 : Int)=3 by decide,show ¬ (5 : Int)=4 by decide,decide_true,decide_false,cond_true,cond_false,Option.bind_some],?_⟩
    simp only [lens,List.length_append,List.length_map];omega
  · refine⟨.v Zjy,p,c,by simp only [Xc,Vg,t1,t2,t3,t4,t5,decide_false,cond_false],?_⟩
    simp only [lens];omega
def Zit (e : ErrM) (c : GWireCursor) (p : GPlan) : ErrM × Int × Int × Int × Bool × List GPagePlan × List GProcPlan × List GPortPlan × Int × List Int:=(e,c.at_,c.bound_,p.Id,p.Mobile,p.Pages,p.Procs,p.Ports,p.Events,p.Sems)
def Zkb (e : ErrM) (p : GPlan) : ErrM × Int × Bool × List GPagePlan × List GProcPlan × List GPortPlan × Int × List Int:=(e,p.Id,p.Mobile,p.Pages,p.Procs,p.Ports,p.Events,p.Sems)
theorem Znv {r c : GWireCursor} {e : ErrM} {p : GPlan} (he : e ≠ .nil) : Qr r (Zit e c p)=some (.inr (Zkb e p)):=by
  simp only [Zit,Qr,Yo,he,decide_false,cond_false,Option.bind_some,Zkb]
theorem Znw {r c : GWireCursor} {p : GPlan} (h : OkCur c) (hb : c.b_=r.b_) (hl : ¬ 0 < c.bound_ - c.at_) : Qr r (Zit .nil c p)=some (.inr (Zkb .nil p)):=by
  simp only [Zit,Qr,Yo,← hb,Xc,Yi c h,hl,decide_true,decide_false,cond_true,cond_false,Option.bind_some,Zkb]
theorem Znx {r c : GWireCursor} {p : GPlan} (h : OkCur c) (hb : c.b_=r.b_) (hl : 0 < c.bound_ - c.at_) (he : (Hg c).2.2.1 ≠ .nil) : Qr r (Zit .nil c p)=some (.inl (Zit (Hg c).2.2.1 (Hg c).2.2.2 p)):=by
  simp only [Zit,Qr,Yo,← hb,Xc,Yi c h,hl,Zjj c h,he,decide_true,decide_false,cond_true,cond_false,Option.bind_some]
theorem Zny {r c c' d d' : GWireCursor} {p p' : GPlan} {t : Int} {e : ErrM} (h : OkCur c) (hb : c.b_=r.b_) (hl : 0 < c.bound_ - c.at_) (hn : Hg c=(t,some d,.nil,c')) (hd : d.b_=c.b_) (hp : Vg p t d=some (e,p',d')) : Qr r (Zit .nil c p)=some (.inl (Zit e c' p')):=by
  simp only [Zit,Qr,Yo,← hb,Xc,Yi c h,hl,Zjj c h,hn,decide_true,cond_true,Option.bind_some]
  simp only [← hd,Xc]
  rw [show (⟨p.Id,p.Mobile,p.Pages,p.Procs,p.Ports,p.Events,p.Sems⟩ : GPlan)=p from rfl,hp]
  rfl
theorem Zpr {c d : GWireCursor} (h : (Hg c).2.1=some d) : d.bound_ - d.at_ ≤ 65535 ∧ 0 ≤ d.bound_ - d.at_ ∧ (Hg c).2.2.1=.nil:=by
  have hn:=Zl0 (Zji c.b_ (c.at_.toNat + 1) 2)
  unfold Hg at h ⊢
  split at h
  · cases h
  · split at h
    · cases h
    · split at h
      · cases h
      · rename_i h1 h2 h3
        rw [if_neg h1,if_neg h2,if_neg h3]
        cases h
        exact⟨by simp only;omega,by simp only;omega,rfl⟩
theorem Znz {r : GWireCursor} (hr : r.b_.length ≤ 4294967296) {c : GWireCursor} {p : GPlan} {e : ErrM} (h : OkCur c) (hb : c.b_=r.b_) (hl : (lens p : Int) ≤ c.at_) : ∃ e' p',Uj (Qr r) (Zit e c p)=some (Zkb e' p'):=by
  have key:=Hq (L:=Qr r) (fun s=>∃ e c p,s=Zit e c p ∧ OkCur c ∧ c.b_=r.b_ ∧ (lens p : Int) ≤ c.at_) (fun o=>∃ e p,o=Zkb e p) (fun s=>if s.1=.nil then (s.2.2.1 - s.2.1).toNat + 1 else 0) (fun s hI=>by
    obtain⟨e,c,p,rfl,h,hb,hl⟩:=hI
    have ok:=h
    obtain⟨k1,k2,k3,k4⟩:=h
    rw [hb] at k3
    by_cases he : e=.nil
    · subst he
      by_cases h0 : 0 < c.bound_ - c.at_
      · obtain⟨n1,n2,n3,n4,n5⟩:=Znd ok
        by_cases hn : (Hg c).2.2.1=.nil
        · obtain⟨d,hd⟩:=n5 hn
          obtain⟨d1,d2,d3,d4⟩:=n4 d hd
          obtain⟨m1,m2,_⟩:=Zpr hd
          obtain⟨e',p',d',hp,hle⟩:=Zpq (p:=p) (t:=(Hg c).1) d1 (by omega) (by omega)
          have hnx : Hg c=((Hg c).1,some d,.nil,(Hg c).2.2.2):=by rw [← hd,← hn]
          refine .inl ⟨_,Zny ok hb h0 hnx d2 hp,⟨e',_,p',rfl,n1,n2.trans hb,by omega⟩,?_⟩
          simp only [Zit,if_true,n3]
          split <;> omega
        · refine .inl ⟨_,Znx ok hb h0 hn,⟨_,_,p,rfl,n1,n2.trans hb,?_⟩,?_⟩
          · have : (Hg c).2.2.2.at_=c.at_:=by
              unfold Hg at hn ⊢
              split
              · rfl
              · split
                · rfl
                · split
                  · rfl
                  · rename_i h1 h2 h3
                    rw [if_neg h1,if_neg h2,if_neg h3] at hn
                    exact absurd rfl hn
            omega
          · simp only [Zit,hn,if_true,if_false];omega
      · exact .inr ⟨_,Znw ok hb h0,⟨_,_,rfl⟩⟩
    · exact .inr ⟨_,Znv he,⟨_,_,rfl⟩⟩) (s:=Zit e c p) ⟨e,c,p,rfl,h,hb,hl⟩
  obtain⟨_,h1,e',p',rfl⟩:=key
  exact⟨e',p',h1⟩
theorem Zn0 {a b : List UInt8} : Zea a=Zea b ↔ a=b:=by
  constructor
  · intro h
    have:=congrArg (fun x : ByteArray=>x.data.toList) h
    simpa [Zea] using this
  · exact congrArg Zea
instance opensDec (s : List UInt8) : Decidable (Ze0 s):=by unfold Ze0;infer_instance
theorem Zn1 (b : List UInt8) (h : b.length ≤ 140737488355328) : Gd b=some (if b.length < 4 then ([],.v Kz) else if Ze0 b then (b.take (b.length - 4),.nil) else ([],.v gSum)):=by
  by_cases h4 : b.length < 4
  · simp only [Gd,h4,decide_true,cond_true,if_true]
  · have hw : IntKind.i64.wrap (((b.length : Nat) : Int) - 4)=((b.length - 4 : Nat) : Int):=by rw [Qi ⟨by omega,by omega⟩];omega
    have hl : (b.take (b.length - 4)).length=b.length - 4:=by rw [List.length_take];omega
    have c1 : (0 : Int) ≤ ((b.length - 4 : Nat) : Int) ∧ ((b.length - 4 : Nat) : Int) ≤ ((b.length : Nat) : Int):=⟨by omega,by omega⟩
    have c2 : (0 : Int) ≤ ((b.length - 4 : Nat) : Int) ∧ ((b.length - 4 : Nat) : Int) ≤ ((b.length : Nat) : Int) ∧ ((b.length : Nat) : Int) ≤ ((b.length : Nat) : Int):=⟨by omega,by omega,by omega⟩
    have hd : (b.drop (b.length - 4)).take (b.length - (b.length - 4))=b.drop (b.length - 4):=List.take_of_length_le (by rw [List.length_drop];omega)
    have e : ∀ z,Hm z=some (Zgo z):=fun _=>rfl
    have hc : Vn (b.take (b.length - 4))=some (b.take (b.length - 4)):=by
      have c : (([] : List UInt8).length + (b.take (b.length - 4)).length) * 1 ≤ 140737488355328:=by rw [hl];simp only [List.length_nil];omega
      simp only [Vn,chk,c,if_true,List.nil_append]
    by_cases ho : Ze0 b
    · have hq : Zea (Zgo (Zhq (b.take (b.length - 4))))=Zea (b.drop (b.length - 4)):=by rw [ho.2]
      simp only [Gd,h4,hw,hl,Int.toNat_natCast,chk,c1,c2,and_self,hd,Zif,e,Uv,hq,hc,ho,decide_true,decide_false,Bool.not_true,cond_false,Option.bind_some,if_true,if_false]
    · have hq : ¬ Zea (Zgo (Zhq (b.take (b.length - 4))))=Zea (b.drop (b.length - 4)):=fun hh=>ho ⟨by omega,(Zn0.1 hh).symm⟩
      simp only [Gd,h4,hw,hl,Int.toNat_natCast,chk,c1,c2,and_self,hd,Zif,e,Uv,hq,ho,decide_false,Bool.not_false,cond_true,cond_false,Option.bind_some,if_true,if_false]
theorem Ziu (a b : List UInt8) : Xv a b=some (decide (a=b)):=by
  by_cases hl : a.length=b.length
  · have h:=Znj (L:=Xt a b) hl (fun i x y hi hx hy=>by
      simp only [Xt,hi,hx,hy,decide_true,cond_true,Option.bind_some]
      by_cases e : x=y
      · simp [e]
      · have : ¬ ((x.toNat : Int)=(y.toNat : Int)):=fun h=>e (UInt8.toNat_inj.1 (by omega))
        simp [e,this]) (by simp [Xt])
    simp only [Xv,hl,decide_true,Bool.not_true,cond_false,h,Option.bind_some]
    by_cases e : a=b <;> simp [e]
  · simp only [Xv,hl,decide_false,Bool.not_false,cond_true,Zpn hl]
def noP : GPlan:=⟨0,false,[],[],[],0,[]⟩
theorem Ziv {p : GPlan} (h : Gg p ≠ .nil) : Ju p=some ([],.v Uz):=by
  simp only [Ju,Hp,h,decide_false,Bool.not_false,cond_true,Option.bind_some]
theorem Zkc (b : List UInt8) (h : b.length ≤ 140737488355328) : Te b=some ⟨b,0,((b.length : Nat) : Int)⟩:=by
  have c : (([] : List UInt8).length + b.length) * 1 ≤ 140737488355328:=by simp only [List.length_nil];omega
  simp only [Te,Xb,chk,c,if_true,Option.bind_some,List.nil_append]
theorem okOpen (b : List UInt8) (h : b.length ≤ 140737488355328) : OkCur ⟨b,0,((b.length : Nat) : Int)⟩:=⟨Int.le_refl _,by simp only;omega,Int.le_refl _,h⟩
theorem Zn2 {c : GWireCursor} {n : Nat} (h : OkCur c) : (⟨c.b_,(Zj9 c n).2.2.at_,(Zj9 c n).2.2.bound_⟩ : GWireCursor)=(Zj9 c n).2.2:=by
  rw [← (Zin h).2.1]
theorem Zcw (b : List UInt8) (hb : b.length ≤ 140737488355328) : ∃ p e,Qv b=some (p,e) ∧ (e=.nil → Gg p=.nil ∧ Ql p=b) ∧ (e ≠ .nil → p=noP):=by
  have hO:=Zn1 b hb
  by_cases h4 : b.length < 4
  · rw [if_pos h4] at hO
    refine⟨noP,.v Kz,?_,(fun h=>by cases h),fun _=>rfl⟩
    simp only [Qv,hO,Option.bind_some,noP];rfl
  rw [if_neg h4] at hO
  by_cases ho : Ze0 b
  rotate_left
  · rw [if_neg ho] at hO
    refine⟨noP,.v gSum,?_,(fun h=>by cases h),fun _=>rfl⟩
    simp only [Qv,hO,Option.bind_some,noP];rfl
  rw [if_pos ho] at hO
  have hl : (b.take (b.length - 4)).length=b.length - 4:=by rw [List.length_take];omega
  generalize hbody : b.take (b.length - 4)=body at hO hl
  by_cases h15 : body.length < 15
  · refine⟨noP,.v Kz,?_,(fun h=>by cases h),fun _=>rfl⟩
    simp only [Qv,hO,h15,Option.bind_some,decide_true,Bool.not_true,cond_true,cond_false,noP]
  have c6 : (0 : Int) ≤ 6 ∧ (6 : Int) ≤ ((body.length : Nat) : Int):=⟨by decide,by omega⟩
  by_cases hk : Zea (body.take (6 : Int).toNat)=⟨#[70,80,76,78,0,1]⟩
  rotate_left
  · refine⟨noP,.v Zf4,?_,(fun h=>by cases h),fun _=>rfl⟩
    simp only [Qv,hO,h15,hk,chk,c6,and_self,if_true,Option.bind_some,decide_true,decide_false,Bool.not_true,Bool.not_false,cond_true,cond_false,noP]
  have hop:=Zkc body (by omega)
  have ok0:=okOpen body (by omega)
  generalize hc0 : (⟨body,0,((body.length : Nat) : Int)⟩ : GWireCursor)=c0 at hop ok0
  have hb0 : c0.b_=body:=by rw [← hc0]
  have hraw:=Zim c0 6 ok0
  have r1:=Zin (n:=6) ok0
  have x1:=Zn2 (n:=6) ok0
  generalize Zj9 c0 6=q1 at hraw r1 x1
  have hu1:=Zil _ r1.1
  have r2:=Kr (k:=4) (lo:=0) (hi:=4294967295) r1.1
  have x2:=Vx (k:=4) (lo:=0) (hi:=4294967295) r1.1
  have g2 : (Qw q1.2.2 4 0 4294967295).1 ≤ 4294967295:=by
    unfold Qw;split
    · simp
    · split
      · simp
      · simp only;omega
  generalize Qw q1.2.2 4 0 4294967295=q2 at hu1 r2 x2 g2
  rw [r1.2.1] at x2
  by_cases hn : q2.1=((b.length : Nat) : Int)
  rotate_left
  · refine⟨noP,.v Yy,?_,(fun h=>by cases h),fun _=>rfl⟩
    simp only [Qv,hO,h15,hk,chk,c6,and_self,hop,Xc,show Xf c0 6=_ from hraw,x1,hu1,hn,if_true,Option.bind_some,decide_true,decide_false,Bool.not_true,Bool.not_false,cond_true,cond_false,noP]
  have hu2:=Zil _ r2.1
  have r3:=Kr (k:=4) (lo:=0) (hi:=4294967295) r2.1
  have x3:=Vx (k:=4) (lo:=0) (hi:=4294967295) r2.1
  generalize Qw q2.2.2 4 0 4294967295=q3 at hu2 r3 x3
  rw [r2.2.1,r1.2.1] at x3
  have hu3:=Zjl _ r3.1
  have r4:=Kr (k:=1) (lo:=0) (hi:=1) r3.1
  have f4 : (Zl8 q3.2.2).2.2=(Qw q3.2.2 1 0 1).2.2:=rfl
  generalize Zl8 q3.2.2=q4 at hu3 f4
  have ok4 : OkCur q4.2.2:=by rw [f4];exact r4.1
  have b4 : q4.2.2.b_=c0.b_:=by rw [f4,r4.2.1,r3.2.1,r2.2.1,r1.2.1]
  obtain⟨e,p,hL⟩:=Znz (r:=c0) (c:=q4.2.2) (p:=⟨q3.1,q4.1,[],[],[],0,[]⟩) (e:=q4.2.1) (by rw [hb0];omega) ok4 b4 (by have:=ok4.a0;simpa [lens] using this)
  have hL' : Uj (Qr c0) (q4.2.1,q4.2.2.at_,q4.2.2.bound_,q3.1,q4.1,[],[],[],0,[])=some (e,p.Id,p.Mobile,p.Pages,p.Procs,p.Ports,p.Events,p.Sems):=hL
  have base : Qv b=(bif (!decide (e=.nil)) then some (noP,(.v Uz)) else (Ju p).bind fun r702=>(((bif (!decide (r702.2=.nil)) then some true else (Xv r702.1 b).bind fun r1213=>some (!r1213))) : Option Bool).bind (fun q=>(Yn p.Id p.Mobile p.Pages p.Procs p.Ports p.Events p.Sems) q)):=by
    simp only [Qv,hO,h15,hk,chk,c6,and_self,hop,Xc,show Xf c0 6=_ from hraw,x1,hu1,x2,hn,hu2,x3,hu3,if_true,Option.bind_some,decide_true,decide_false,Bool.not_true,cond_false]
    rw [hL']
    rfl
  by_cases he : e=.nil
  rotate_left
  · exact⟨noP,.v Uz,by rw [base];simp only [he,decide_false,Bool.not_false,cond_true],(fun h=>by cases h),fun _=>rfl⟩
  simp only [he,decide_true,Bool.not_true,cond_false] at base
  by_cases hp : Gg p=.nil
  · simp only [Zbi hp,Option.bind_some,decide_true,Bool.not_true,cond_false,Ziu] at base
    by_cases hq : Ql p=b
    · simp only [hq,decide_true,Bool.not_true,Yn,cond_false] at base
      exact⟨p,.nil,base,fun _=>⟨hp,hq⟩,fun h=>absurd rfl h⟩
    · simp only [hq,decide_false,Bool.not_false,Yn,cond_true] at base
      exact⟨noP,.v Uz,base,(fun h=>by cases h),fun _=>rfl⟩
  · have hv : ¬ (ErrM.v Uz=ErrM.nil):=fun h=>by cases h
    simp only [Ziv hp,Option.bind_some,hv,decide_false,Bool.not_false,cond_true,Yn] at base
    exact⟨noP,.v Uz,base,(fun h=>by cases h),fun _=>rfl⟩
end Go.Proofs.YtfemfiiagjnhdaaGreatDoor
set_option linter.unusedVariables false
set_option linter.unusedSimpArgs false
set_option linter.unusedSectionVars false
namespace Go.Proofs.YtfemfiiagjnhdaaGreatDoor
open Go Go.RowKit
theorem Zjo : ∀ (l : List UInt8) (j : Nat) (x y : UInt8),l[j]? = some x → Zby (l.set j y)=Zby l ^^^ (2 ^ (8 * j) * (x.toNat ^^^ y.toNat))
  | [],j,x,y,h=>by simp at h
  | c :: r,0,x,y,h=>by
    have : c=x:=by simpa using h
    subst this
    rw [List.set_cons_zero,Zby,Zby,Nat.mul_zero,Nat.pow_zero,Nat.one_mul,Nat.xor_assoc,Nat.xor_comm (2 ^ 8 * Zby r),← Nat.xor_assoc,← Nat.xor_assoc,Nat.xor_self,Nat.zero_xor]
  | c :: r,j + 1,x,y,h=>by
    have ih:=Zjo r j x y (by simpa using h)
    rw [List.set_cons_succ,Zby,Zby,ih,Zd3.mul_xor,Nat.xor_assoc,show 8 * (j + 1)=8 + 8 * j by omega,Nat.pow_add,Nat.mul_assoc]
theorem Zmf (x : UInt8) {t : Nat} (ht : t < 8) : (Qq (Yr .u8 ((x.toNat : Nat) : Int) (shL .u8 1 ((t : Nat) : Int)))).toNat=x.toNat ^^^ 2 ^ t:=by
  have hx:=x.toNat_lt
  have h2 : 2 ^ t < 256:=by
    have : 2 ^ t ≤ 2 ^ 7:=Nat.pow_le_pow_right (by decide) (by omega)
    omega
  have hs : shL .u8 1 ((t : Nat) : Int)=((2 ^ t : Nat) : Int):=by
    unfold shL
    rw [Int.toNat_natCast,show min t IntKind.u8.bits=t from Nat.min_eq_left (by show t ≤ 8;omega)]
    have : (1 : Int) * 2 ^ t=((2 ^ t : Nat) : Int):=by simp
    rw [this,Zgm,Nat.mod_eq_of_lt h2]
  have hlt : x.toNat ^^^ 2 ^ t < 256:=Nat.xor_lt_two_pow (n:=8) (by omega) h2
  rw [hs,Zey (by omega) h2,Zfq,Nat.mod_eq_of_lt hlt]
theorem Zmg (b : List UInt8) (at_ : Nat) (mask : Int) (hb : b.length ≤ 100000) (hat : at_ < 8 * b.length) :
    ∃ c hit M,Yp b (at_ : Int) mask=some (c,hit) ∧ c.length=b.length ∧ Zby c=Zby b ^^^ (2 ^ at_ * M) ∧ M < 4294967296 ∧ (hit=true → M ≠ 0):=by
  have c1 : (([] : List UInt8).length + b.length) * 1 ≤ 140737488355328:=by simp only [List.length_nil];omega
  have w8 : IntKind.i64.wrap (8 * ((b.length : Nat) : Int))=((8 * b.length : Nat) : Int):=by rw [Qi ⟨by omega,by omega⟩];omega
  have key:=Hq (L:=Jq b (at_ : Int) mask) (fun s=>s.2.2 ≤ 32 ∧ s.1.length=b.length ∧ ∃ M,Zby s.1=Zby b ^^^ (2 ^ at_ * M) ∧ M < 2 ^ s.2.2 ∧ (s.2.1=true → M ≠ 0))
    (fun r=>r.1.length=b.length ∧ ∃ M,Zby r.1=Zby b ^^^ (2 ^ at_ * M) ∧ M < 4294967296 ∧ (r.2=true → M ≠ 0)) (fun s=>32 - s.2.2) (fun s hI=>by
    obtain⟨l,hit,i⟩:=s
    obtain⟨hi,hl,M,hn,hM,hh⟩:=hI
    simp only at hi hl hn hM hh
    by_cases hlt : i < 32
    · have wa : IntKind.i64.wrap ((at_ : Int) + ((i : Nat) : Int))=((at_ + i : Nat) : Int):=by rw [Qi ⟨by omega,by omega⟩];omega
      by_cases hc : (decide ((Zed .u32 (shR .u32 mask ((i : Nat) : Int)) 1)=1) && decide (((at_ + i : Nat) : Int) < ((8 * b.length : Nat) : Int)))=true
      · have hk : at_ + i < 8 * b.length:=by
          simp only [Bool.and_eq_true,decide_eq_true_eq] at hc
          have:=hc.2;omega
        have wd : IntKind.i64.wrap (Int.tdiv ((at_ + i : Nat) : Int) 8)=(((at_ + i) / 8 : Nat) : Int):=by
          rw [show Int.tdiv ((at_ + i : Nat) : Int) 8=(((at_ + i) / 8 : Nat) : Int) from rfl,Qi ⟨by omega,by omega⟩]
        have wm : Int.tmod ((at_ + i : Nat) : Int) 8=(((at_ + i) % 8 : Nat) : Int):=rfl
        have hj : (at_ + i) / 8 < l.length:=by omega
        have hx : l[(at_ + i) / 8]? = some l[(at_ + i) / 8]:=List.getElem?_eq_getElem hj
        generalize l[(at_ + i) / 8]=x at hx
        have hr : rdI l (((at_ + i) / 8 : Nat) : Int)=some x:=by unfold rdI;rw [if_pos (by omega),Int.toNat_natCast,hx]
        have c2 : (0 : Int) ≤ (((at_ + i) % 8 : Nat) : Int):=by omega
        refine .inl ⟨(l.set ((at_ + i) / 8) (Qq (Yr .u8 ((x.toNat : Nat) : Int) (shL .u8 1 (((at_ + i) % 8 : Nat) : Int)))),true,i + 1),?_,⟨by simp only;omega,by simp only [List.length_set];exact hl,M ^^^ 2 ^ i,?_,?_,fun _=>?_⟩,by simp only;omega⟩
        · simp only [Jq,Vh,hlt,wa,w8,hc,wd,wm,hr,chk,c2,decide_true,cond_true,if_true,Option.bind_some,Int.toNat_natCast]
        · simp only
          rw [Zjo l _ x _ hx,Zmf x (Nat.mod_lt _ (by decide)),← Nat.xor_assoc,Nat.xor_self,Nat.zero_xor,hn,Zd3.mul_xor,Nat.xor_assoc,← Nat.pow_add,← Nat.pow_add]
          rw [show 8 * ((at_ + i) / 8) + (at_ + i) % 8=at_ + i by omega]
        · show M ^^^ 2 ^ i < 2 ^ (i + 1)
          exact Nat.xor_lt_two_pow (Nat.lt_of_lt_of_le hM (Nat.pow_le_pow_right (by decide) (by omega))) (Nat.pow_lt_pow_right (by decide) (by omega))
        · intro e
          have ht : (M ^^^ 2 ^ i).testBit i=true:=by
            rw [Nat.testBit_xor,Nat.testBit_lt_two_pow hM,Nat.testBit_two_pow_self];rfl
          rw [e] at ht;simp at ht
      · have hc':=Bool.eq_false_iff.2 hc
        refine .inl ⟨(l,hit,i + 1),?_,⟨by simp only;omega,hl,M,hn,Nat.lt_of_lt_of_le hM (Nat.pow_le_pow_right (by decide) (by simp only;omega)),hh⟩,by simp only;omega⟩
        simp only [Jq,Vh,hlt,wa,w8,hc',decide_true,cond_true,cond_false,Option.bind_some]
    · obtain rfl : i=32:=by omega
      refine .inr ⟨(l,hit),?_,hl,M,hn,hM,hh⟩
      simp only [Jq,hlt,decide_false,cond_false]) (s:=(b,false,0)) ⟨Nat.zero_le _,rfl,0,by simp,by simp,by simp⟩
  obtain⟨⟨c,hit⟩,h1,h2,M,h3,h4,h5⟩:=key
  refine⟨c,hit,M,?_,h2,h3,h4,h5⟩
  simp only [Yp,chk,c1,if_true,List.nil_append,h1,Option.bind_some]
theorem Wl (p : GPlan) : (Ql p).length=19 + (Zaa p).length:=by
  have h4 : (Zii (Zhq (Zdv p))).length=4:=rfl
  rw [Ql,List.length_append,h4,Zdv,List.length_append,Zcv];omega
theorem Zhp (p : GPlan) : ((Ql p).drop 6).take 4=be (((Ql p).length : Nat) : Int) 4:=by
  have e6 : Ql p=(Gv ++ be 1 2) ++ (be (((15 + (Zaa p).length + 4 : Nat)) : Int) 4 ++ (be p.Id 4 ++ (Zig p.Mobile ++ (Zaa p ++ Zii (Zhq (Zdv p)))))):=by
    simp only [Ql,Zdv,Zhj,List.append_assoc]
  have l6 : (Gv ++ be 1 2).length=6:=by simp [Gv,Vr]
  have l4 : (be (((15 + (Zaa p).length + 4 : Nat)) : Int) 4).length=4:=Vr _ 4
  have hl : (((Ql p).length : Nat) : Int)=((15 + (Zaa p).length + 4 : Nat) : Int):=by rw [Wl];omega
  rw [hl]
  conv=>lhs;rw [e6]
  rw [List.drop_append_of_le_length (by omega),List.drop_eq_nil_of_le (by omega),List.nil_append,List.take_append_of_le_length (by omega),List.take_of_length_le (by omega)]
theorem Zkd {p q : GPlan} (hp : Gg p=.nil) (hq : Gg q=.nil) (h : ((Ql p).drop 6).take 4=((Ql q).drop 6).take 4) : (Ql p).length=(Ql q).length:=by
  have h1:=Gu (Zcs hp)
  have h2:=Gu (Zcs hq)
  have l1:=Wl p
  have l2:=Wl q
  rw [Zhp,Zhp] at h
  have h:=congrArg Ya h
  rw [Zjk (m:=4294967295) (by decide) (by omega) (by omega) (by decide),Zjk (m:=4294967295) (by decide) (by omega) (by omega) (by decide)] at h
  omega
theorem Zfs {p : GPlan} (h : Gg p=.nil) {c : List UInt8} (hl : c.length ≠ (Ql p).length) (hc : 10 ≤ c.length → (c.drop 6).take 4=((Ql p).drop 6).take 4) (hs : c.length ≤ 100000) : ∃ q e,Qv c=some (q,e) ∧ e ≠ .nil:=by
  obtain⟨q,e,h1,h2,_⟩:=Zcw c (by omega)
  refine⟨q,e,h1,fun he=>?_⟩
  obtain⟨g1,g2⟩:=h2 he
  have:=Wl q
  rw [← g2] at hl hc
  exact hl (Zkd g1 h (hc (by omega)))
theorem Ziw {p : GPlan} (h : Gg p=.nil) {c : List UInt8} {k M : Nat} (hl : c.length=(Ql p).length) (hn : Zby c=Zby (Ql p) ^^^ (2 ^ k * M)) (hM : M < 4294967296) (h0 : M ≠ 0) : ∃ q e,Qv c=some (q,e) ∧ e ≠ .nil:=by
  have hr:=Gu (Zcs h)
  have hbl:=Wl p
  obtain⟨q,e,h1,h2,_⟩:=Zcw c (by omega)
  refine⟨q,e,h1,fun he=>?_⟩
  obtain⟨g1,g2⟩:=h2 he
  have o1 : Ze0 (Ql p):=Zfr (Zdv p)
  have o2 : Ze0 c:=by rw [← g2];exact Zfr (Zdv q)
  exact h0 (Zka o1 o2 hl hn hM)
theorem Ze1 (x : GL10Case) {p : GPlan} (h : Gg p=.nil) : Uj (Qs x (Ql p,.nil)) 0=some (.inl ()):=by
  have hr:=Gu (Zcs h)
  have hbl:=Wl p
  have w8 : IntKind.i64.wrap (8 * (((Ql p).length : Nat) : Int))=((8 * (Ql p).length : Nat) : Int):=by rw [Qi ⟨by omega,by omega⟩];omega
  have c1 : ((8 * (Ql p).length : Nat) : Int) ≠ 0:=by omega
  have key:=Hq (L:=Qs x (Ql p,.nil)) (fun i=>i ≤ 8) (fun r=>r=.inl ()) (fun i=>8 - i) (fun i hi=>by
    by_cases hlt : i < 8
    · refine .inl ⟨i + 1,?_,by omega,by omega⟩
      generalize hz : Int.tmod (IntKind.i64.wrap ((IntKind.i64.wrap (Int.tmod (IntKind.u64.wrap x.At) (IntKind.u64.wrap (IntKind.i64.wrap (8 * (((Ql p).length : Nat) : Int)))))) + (IntKind.i64.wrap (((i : Nat) : Int) * 131)))) ((8 * (Ql p).length : Nat) : Int)=z
      have hz0 : 0 ≤ z ∧ z < ((8 * (Ql p).length : Nat) : Int):=by
        have wu : IntKind.u64.wrap ((8 * (Ql p).length : Nat) : Int)=((8 * (Ql p).length : Nat) : Int):=by
          have : ∀ y : Int,IntKind.u64.wrap y=y % 18446744073709551616:=fun y=>by simp [IntKind.wrap,IntKind.signed,IntKind.bits]
          rw [this];omega
        have wa : 0 ≤ IntKind.u64.wrap x.At:=by
          have : ∀ y : Int,IntKind.u64.wrap y=y % 18446744073709551616:=fun y=>by simp [IntKind.wrap,IntKind.signed,IntKind.bits]
          rw [this];omega
        rw [w8,wu] at hz
        have m0 : 0 ≤ Int.tmod (IntKind.u64.wrap x.At) ((8 * (Ql p).length : Nat) : Int):=Int.tmod_nonneg _ wa
        have m1 : Int.tmod (IntKind.u64.wrap x.At) ((8 * (Ql p).length : Nat) : Int) < ((8 * (Ql p).length : Nat) : Int):=Int.tmod_lt_of_pos _ (by omega)
        generalize Int.tmod (IntKind.u64.wrap x.At) ((8 * (Ql p).length : Nat) : Int)=m at hz m0 m1
        rw [Qi (z:=m) ⟨by omega,by omega⟩,Qi (z:=((i : Nat) : Int) * 131) ⟨by omega,by omega⟩,Qi ⟨by omega,by omega⟩] at hz
        rw [← hz]
        exact⟨Int.tmod_nonneg _ (by omega),Int.tmod_lt_of_pos _ (by omega)⟩
      obtain⟨k,rfl⟩:=Int.eq_ofNat_of_zero_le hz0.1
      obtain⟨c,hit,M,ht,hl,hn,hM,hh⟩:=Zmg (Ql p) k (Zju .u32 x.Mask 1) (by omega) (by omega)
      have ht' : Yp (Ql p) (Int.tmod (IntKind.i64.wrap ((IntKind.i64.wrap (Int.tmod (IntKind.u64.wrap x.At) (IntKind.u64.wrap (IntKind.i64.wrap (8 * (((Ql p).length : Nat) : Int)))))) + (IntKind.i64.wrap (((i : Nat) : Int) * 131)))) (IntKind.i64.wrap (8 * (((Ql p).length : Nat) : Int)))) (Zju .u32 x.Mask 1)=some (c,hit):=by
        conv=>lhs;arg 2;arg 2;rw [w8]
        rw [hz];exact ht
      have c1' : IntKind.i64.wrap (8 * (((Ql p).length : Nat) : Int)) ≠ 0:=by rw [w8];exact c1
      cases hit with
      | false=>simp only [Qs,Jv,hlt,chk,c1',ht',ne_eq,not_false_eq_true,if_true,decide_true,cond_true,cond_false,Option.bind_some]
      | true=>
        obtain⟨q,e,g1,g2⟩:=Ziw h hl hn hM (hh rfl)
        simp only [Qs,Jv,hlt,chk,c1',ht',g1,g2,ne_eq,not_false_eq_true,if_true,decide_true,decide_false,cond_true,cond_false,Option.bind_some]
    · exact .inr ⟨.inl (),by simp only [Qs,hlt,decide_false,cond_false],rfl⟩) (s:=0) (Nat.zero_le _)
  obtain⟨_,h1,rfl⟩:=key
  exact h1
theorem Zft {p : GPlan} (h : Gg p=.nil) : Uj (Qz (Ql p,.nil)) 0=some (.inl ()):=by
  have hr:=Gu (Zcs h)
  have hbl:=Wl p
  have key:=Hq (L:=Qz (Ql p,.nil)) (fun z=>0 ≤ z) (fun r=>r=.inl ()) (fun z=>(Ql p).length - z.toNat) (fun z hz=>by
    by_cases hlt : z < (((Ql p).length : Nat) : Int)
    · obtain⟨k,rfl⟩:=Int.eq_ofNat_of_zero_le hz
      have hk : k < (Ql p).length:=by omega
      have hl : ((Ql p).take k).length=k:=by rw [List.length_take];omega
      obtain⟨q,e,g1,g2⟩:=Zfs h (c:=(Ql p).take k) (by omega) (fun h10=>by
        rw [List.drop_take,List.take_take,Nat.min_eq_left (by omega)]) (by omega)
      have w0 : Int.tdiv (((Ql p).length : Nat) : Int) 200=(((Ql p).length / 200 : Nat) : Int):=rfl
      have w1 : IntKind.i64.wrap ((k : Int) + (IntKind.i64.wrap (1 + (IntKind.i64.wrap (Int.tdiv (((Ql p).length : Nat) : Int) 200)))))=((k + 1 + (Ql p).length / 200 : Nat) : Int):=by
        rw [w0,Qi (z:=(((Ql p).length / 200 : Nat) : Int)) ⟨by omega,by omega⟩,Qi (z:=1 + (((Ql p).length / 200 : Nat) : Int)) ⟨by omega,by omega⟩,Qi ⟨by omega,by omega⟩];omega
      have c1 : (0 : Int) ≤ (k : Int) ∧ (k : Int) ≤ (((Ql p).length : Nat) : Int):=⟨by omega,by omega⟩
      have hlt' : (k : Int) < (((Ql p).length : Nat) : Int):=hlt
      refine .inl ⟨((k + 1 + (Ql p).length / 200 : Nat) : Int),?_,by omega,by simp only [Int.toNat_natCast];omega⟩
      have e1 : Qv ((Ql p).take (Int.toNat (k : Int)))=some (q,e):=g1
      simp only [Qz,hlt',chk,c1,and_self,e1,g2,w1,if_true,decide_true,decide_false,cond_true,cond_false,Option.bind_some]
    · exact .inr ⟨.inl (),by simp only [Qz,hlt,decide_false,cond_false],rfl⟩) (s:=0) (Int.le_refl _)
  obtain⟨_,h1,rfl⟩:=key
  exact h1
theorem Ze2 {p : GPlan} (h : Gg p=.nil) : ∃ q e,Qv (Ql p ++ [Qq 0])=some (q,e) ∧ e ≠ .nil:=by
  have hr:=Gu (Zcs h)
  have hbl:=Wl p
  refine Zfs h (by rw [List.length_append];simp) (fun _=>?_) (by rw [List.length_append];simp;omega)
  rw [List.drop_append_of_le_length (by omega),List.take_append_of_le_length (by rw [List.length_drop];omega)]
theorem L9_eq : Yf=Qz:=rfl
theorem L10_eq : Ky=Qs:=rfl
theorem Zdw (x : GL10Case) (hP : Zew x.P) : Yg x=some true:=by
  have main : ∀ p : GPlan,Gg p=.nil → (((Ql p).length=0)=False) ∧ ((([] : List UInt8).length + (Ql p).length) * 1 ≤ 140737488355328) ∧ ((([] ++ Ql p : List UInt8).length + [(Qq 0)].length) * 1 ≤ 140737488355328) ∧ ((IntKind.u64.wrap (IntKind.i64.wrap (8 * (((Ql p).length : Nat) : Int)))) ≠ 0):=fun p h=>by
    have hr:=Gu (Zcs h)
    have hbl:=Wl p
    refine⟨eq_false (by omega),by simp;omega,by simp;omega,?_⟩
    have : ∀ y : Int,IntKind.u64.wrap y=y % 18446744073709551616:=fun y=>by simp [IntKind.wrap,IntKind.signed,IntKind.bits]
    rw [this,Qi ⟨by omega,by omega⟩];omega
  by_cases h : Gg x.P=.nil
  · obtain⟨m1,m2,m3,m4⟩:=main x.P h
    obtain⟨q,e,g1,g2⟩:=Ze2 h
    rw [← List.nil_append (Ql x.P)] at g1
    simp only [Yg,Zeu,Zjf,h,Zhn x.P hP,Zbi h,L9_eq,L10_eq,Ze1 x h,Zft h,g1,g2,chk,m1,m2,m3,m4,ne_eq,not_false_eq_true,if_true,decide_true,decide_false,Bool.not_true,Bool.not_false,Bool.or_false,cond_true,cond_false,Option.bind_some]
  · have hs:=Tl
    have hk : Zew Yj:=⟨by decide,by decide,by decide,by decide⟩
    have e0 : Wi=some Yj:=rfl
    obtain⟨m1,m2,m3,m4⟩:=main Yj hs
    obtain⟨q,e,g1,g2⟩:=Ze2 hs
    rw [← List.nil_append (Ql Yj)] at g1
    simp only [Yg,Zeu,Zjf,h,e0,Zhn Yj hk,Zbi hs,Ze1 x hs,Zft hs,g1,g2,chk,m1,m2,m3,m4,ne_eq,not_false_eq_true,if_true,decide_true,decide_false,Bool.not_true,Bool.not_false,Bool.or_false,cond_true,cond_false,Option.bind_some]
end Go.Proofs.YtfemfiiagjnhdaaGreatDoor
