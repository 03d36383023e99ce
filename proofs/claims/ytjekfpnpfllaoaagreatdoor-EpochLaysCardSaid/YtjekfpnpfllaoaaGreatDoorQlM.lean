/- Part of a claim, shortened by a program from its texts: PlanLEl, RuleEEl, EpoXEl, LayLEl. -/
import Derived.Test.YtjekfpnpfllaoaaGreatDoorQlE
set_option linter.unusedVariables false
set_option linter.unusedSimpArgs false
set_option linter.unusedSectionVars false
namespace Go.Proofs.YtjekfpnpfllaoaaGreatDoor
open Go Go.RowKit
section
variable {α ε σ ρ : Type}
def Ja (f : Nat → α → Option ε) : Nat → List α → Option ε
  | _,[]=>none
  | k,x :: r=>match f k x with
    | some e=>some e
    | none=>Ja f (k + 1) r
theorem Zel {ε' : Type} {f : Nat → α → Option ε} {g : Nat → α → Option ε'} {m : ε → ε'} : ∀ (l : List α) (k : Nat),(∀ i x,l[i]? = some x → g (k + i) x=(f (k + i) x).map m) → Ja g k l=(Ja f k l).map m
  | [],_,_=>rfl
  | x :: r,k,h=>by
    have h0 : g k x=(f k x).map m:=h 0 x rfl;have h1:=Zel (m:=m) r (k + 1) fun i y hy=>(show k + (i + 1)=k + 1 + i by omega) ▸ h (i + 1) y (by simpa using hy)
    rw [Ja,Ja,h0,h1];cases f k x <;> rfl
def fin (o : Option ε) : Unit ⊕ ε:=match o with
  | none=>.inl ()
  | some e=>.inr e
def nxt (s : σ) (o : Option ε) : σ ⊕ (Unit ⊕ ε):=match o with
  | none=>.inl s
  | some e=>.inr (.inr e)
theorem Tw (s : σ) (e : ε) : nxt s (some e)=.inr (.inr e):=rfl
theorem Zbn (s : σ) : nxt s (none : Option ε)=.inl s:=rfl
theorem Zht (s : σ) (c : Prop) [Decidable c] (a b : Option ε) : nxt s (if c then a else b)=if c then nxt s a else nxt s b:=by split <;> rfl
theorem Wo {L : Nat → Option (Nat ⊕ (Unit ⊕ ε))} {l : List α} {f : Nat → α → Option ε}
    (h : ∀ i x,i < l.length → l[i]? = some x → L i=some (nxt (i + 1) (f i x))) (h2 : L l.length=some (.inr (.inl ()))) :
    Kp L 0=some (fin (Ja f 0 l)):=by
  have key : ∀ m k,k + m=l.length → Kp L k=some (fin (Ja f k (l.drop k))):=by
    intro m
    induction m with
    | zero=>
      intro k hk;obtain rfl : k=l.length:=by omega
      rw [Yz h2,List.drop_length];rfl
    | succ m ih=>
      intro k hk;have hlt : k < l.length:=by omega
      have hx : l[k]? = some l[k]:=List.getElem?_eq_getElem hlt;have hd : l.drop k=l[k] :: l.drop (k + 1):=List.drop_eq_getElem_cons hlt;have hs:=h k _ hlt hx;rw [hd];cases hf : f k l[k] with
      | none=>rw [hf] at hs;rw [Vw hs,ih (k + 1) (by omega),Ja,hf]
      | some e=>rw [hf] at hs;rw [Yz hs,Ja,hf];rfl
  simpa using key l.length 0 (by omega)
theorem Zhc {L : σ × Nat → Option ((σ × Nat) ⊕ σ)} {l : List α} {g : σ → α → σ} {I : σ → Nat → Prop} {z : σ} (h0 : I z 0)
    (h : ∀ i x z,i < l.length → l[i]? = some x → I z i → L (z,i)=some (.inl (g z x,i + 1)) ∧ I (g z x) (i + 1)) (h2 : ∀ z,I z l.length → L (z,l.length)=some (.inr z)) :
    Kp L (z,0)=some (l.foldl g z) ∧ I (l.foldl g z) l.length:=by
  have key : ∀ m k z,k + m=l.length → I z k → Kp L (z,k)=some ((l.drop k).foldl g z) ∧ I ((l.drop k).foldl g z) l.length:=by
    intro m
    induction m with
    | zero=>
      intro k z hk hI;obtain rfl : k=l.length:=by omega
      rw [Yz (h2 z hI),List.drop_length];exact⟨rfl,hI⟩
    | succ m ih=>
      intro k z hk hI;have hlt : k < l.length:=by omega
      have hx : l[k]? = some l[k]:=List.getElem?_eq_getElem hlt;have hd : l.drop k=l[k] :: l.drop (k + 1):=List.drop_eq_getElem_cons hlt;have hs:=h k _ z hlt hx hI;rw [hd,Vw hs.1,List.foldl_cons];exact ih (k + 1) _ (by omega) hs.2
  simpa using key l.length 0 z (by omega) h0
end
theorem cPlan : (ErrM.v Zc5).code=8:=by decide
theorem cArg : (ErrM.v gArg).code=12:=by decide
theorem cNil : ErrM.nil.code=0:=rfl
theorem cPl (p : Int) (g : Nat) : (ErrM.pl p g).code=(ErrM.v g).code:=rfl
theorem pPl (p : Int) (g : Nat) : (ErrM.pl p g).place=p:=rfl
theorem pV (g : Nat) : (ErrM.v g).place=-1:=rfl
theorem pNil : ErrM.nil.place=-1:=rfl
theorem Zem {e : ErrM} : e.code=0 ↔ e=.nil:=by
  cases e with
  | nil=>simp [cNil]
  | v g=>simp only [ErrM.code,ErrM.g?,Zso];constructor <;> intro h <;> first | omega | cases h
  | pl p g=>simp only [ErrM.code,ErrM.g?,Zso];constructor <;> intro h <;> first | omega | cases h
def Zhd (p : GPortPlan) : ErrM:=
  if p.Kind < 1 ∨ 4 < p.Kind then .v Zs2
  else if p.Size < 1 ∨ 32 < p.Size then .v Zcn
  else if p.Depth < 1 ∨ (if 3 ≤ p.Kind then 8 else 1) < p.Depth ∨ p.Refresh < 0 ∨ (if p.Kind=1 then 255 else 0) < p.Refresh then .v Hm
  else .nil
theorem Zgk (p : GPortPlan) : We p=some (Zhd p):=by
  have hk : (p.Kind < 1 ∨ 4 < p.Kind) ∨ p.Kind=1 ∨ p.Kind=2 ∨ p.Kind=3 ∨ p.Kind=4:=by omega
  rcases hk with h|h|h|h|h
  all_goals
    unfold We Gd Gc Gb Zbh Zer Zaa Zhd
    first
    | (have h1 : ¬ p.Kind=1 := by omega
       have h2 : ¬ p.Kind=2:=by omega
       have h3 : ¬ p.Kind=3:=by omega
       have h4 : ¬ p.Kind=4:=by omega
       simp [h1,h2,h3,h4,h])
    | (simp [h,Bool.cond_eq_ite];repeat' split
       all_goals first | rfl | omega | simp_all)
theorem Zhe (p : GPortPlan) : Uj p=some (Zhd p).code:=by
  have hk : (p.Kind < 1 ∨ 4 < p.Kind) ∨ p.Kind=1 ∨ p.Kind=2 ∨ p.Kind=3 ∨ p.Kind=4:=by omega
  rcases hk with h|h|h|h|h
  all_goals
    unfold Uj Zhd;simp [h,Bool.cond_eq_ite]
    try (repeat' split
         all_goals first | rfl | omega | (simp_all;omega))
def Zje (i : Nat) (x : GPagePlan) : Option ErrM:=if x.Rights < 0 ∨ 7 < x.Rights then some (.pl i Hm) else if 64 < x.Init.size then some (.pl i Zlb) else none
def orN (o : Option ErrM) : ErrM:=o.getD .nil
def Zen (p : GPlan) : ErrM:=if p.Pages.length < 1 ∨ 32 < p.Pages.length then .v Zcn else orN (Ja Zje 0 p.Pages)
theorem Znt (i : Int) (g : Nat) : Zbo i (.v g)=some (.pl i g):=rfl
theorem Zpk (p : GPlan) : Wz p=some (Zen p):=by
  have h:=Wo (L:=Kx p) (l:=p.Pages) (f:=Zje) (fun i x hi hx=>by
    simp only [Kx,hi,hx,decide_true,cond_true,Option.bind_some,Znt,Bool.cond_eq_ite,Bool.or_eq_true,decide_eq_true_eq,Zje,Zht,Tw,Zbn]
    repeat' split
    all_goals first | rfl | (simp_all;done) | omega) (by simp [Kx])
  simp only [Wz,h,Zen,Option.bind_some,Bool.cond_eq_ite,Bool.or_eq_true,decide_eq_true_eq];cases Ja Zje 0 p.Pages <;> (split <;> rfl)
def Zhf (n : Nat) (i : Nat) (x : GProcPlan) : Option ErrM:=if x.Entry < 0 ∨ IntKind.i64.wrap (64 * (n : Int)) ≤ x.Entry ∨ Int.tmod x.Entry 4 ≠ 0 ∨ x.Prio < 0 ∨ 255 < x.Prio then some (.pl i Hm) else none
def Zeo (p : GPlan) : ErrM:=if p.Procs.length < 1 ∨ 8 < p.Procs.length then .v Zcn else orN (Ja (Zhf p.Pages.length) 0 p.Procs)
theorem Zpl (p : GPlan) : Ua p=some (Zeo p):=by
  have h:=Wo (L:=Ky p) (l:=p.Procs) (f:=Zhf p.Pages.length) (fun i x hi hx=>by
    simp only [Ky,Ww,hi,hx,decide_true,cond_true,Option.bind_some,Znt,Bool.cond_eq_ite,decide_eq_true_eq,Zhf,Zht,Tw,Zbn,Bool.not_eq_true',decide_eq_false_iff_not]
    repeat' split
    all_goals first | rfl | omega | (simp_all;done) | (simp_all;omega)) (by simp [Ky])
  simp only [Ua,h,Zeo,Option.bind_some,Bool.cond_eq_ite,Bool.or_eq_true,decide_eq_true_eq];cases Ja (Zhf p.Pages.length) 0 p.Procs <;> (split <;> rfl)
def Zba (i : Nat) (x : GPortPlan) : Option ErrM:=match Zhd x with
  | .v g=>some (.pl i g)
  | _=>none
theorem Zdq (x : GPortPlan) : Zhd x=.nil ∨ ∃ g,Zhd x=.v g:=by
  unfold Zhd
  repeat' split
  all_goals first | exact .inl rfl | exact .inr ⟨_,rfl⟩
def Ze9 (p : GPlan) : ErrM:=if 8 < p.Ports.length then .v Zcn else orN (Ja Zba 0 p.Ports)
def Zl2 (i : Nat) (x : Int) : Option ErrM:=if x < 0 ∨ 255 < x then some (.pl i Hm) else none
def Zch (p : GPlan) : ErrM:=if p.Events < 0 ∨ 8 < p.Events then .v Hm else if 8 < p.Sems.length then .v Zcn else orN (Ja Zl2 0 p.Sems)
def Znu (x : GPortPlan) : Int:=if Zhd x ≠ .nil then 0 else if x.Kind=2 ∨ x.Kind=4 then 2 else IntKind.i64.wrap (2 + IntKind.i64.wrap (x.Depth * IntKind.i64.wrap (1 + x.Size)))
def Zh9 (p : GPlan) : Int:=p.Ports.foldl (fun z x=>IntKind.i64.wrap (z + IntKind.i64.wrap (3 + Znu x))) (IntKind.i64.wrap ((IntKind.i64.wrap ((IntKind.i64.wrap ((IntKind.i64.wrap (58 + (IntKind.i64.wrap (76 * ((p.Procs.length : Nat) : Int))))) + (IntKind.i64.wrap (68 * ((p.Pages.length : Nat) : Int))))) + p.Events)) + ((p.Sems.length : Nat) : Int)))
theorem Zrj (x : GPortPlan) : ∃ e,Zc6 x=some (Znu x,e):=by
  simp only [Zc6,Zgk,Option.bind_some,Znu,Zaa,Bool.cond_eq_ite,Bool.not_eq_true',decide_eq_false_iff_not,Bool.or_eq_true,decide_eq_true_eq]
  repeat' split
  all_goals first | exact⟨_,rfl⟩ | (simp_all;done)
theorem Zs7 (x : GPortPlan) : ∃ e,Zeh x=some (Znu x,e):=by
  simp only [Zeh,Zhe,Option.bind_some,Znu,Bool.cond_eq_ite,Bool.not_eq_true',decide_eq_false_iff_not,Zem,decide_eq_true_eq]
  by_cases h : Zhd x=.nil
  · simp only [h,not_true_eq_false,if_false,ne_eq];have hk : 1 ≤ x.Kind ∧ x.Kind ≤ 4 ∧ 1 ≤ x.Depth ∧ (x.Kind ≤ 2 → x.Depth=1) ∧ 1 ≤ x.Size ∧ x.Size ≤ 32:=by
      unfold Zhd at h
      repeat' split at h
      all_goals first | (cases h;done) | omega
    repeat' split
    all_goals first | (exact⟨_,rfl⟩) | omega | skip
    have h1 : x.Depth=1:=by omega
    refine⟨0,?_⟩;rw [h1,Int.one_mul]
    congr 2
    have e1 : IntKind.i64.wrap (1 + x.Size)=1 + x.Size:=Vb ⟨by omega,by omega⟩;rw [e1,e1]
    congr 1
    omega
  · simp only [h,not_false_eq_true,if_true,ne_eq];exact⟨_,rfl⟩
theorem Zpm (p : GPlan) : Zbp p=some (Zh9 p):=by
  have h:=Zhc (L:=Ub p) (l:=p.Ports) (g:=fun z x=>IntKind.i64.wrap (z + IntKind.i64.wrap (3 + Znu x))) (I:=fun _ _=>True)
    (z:=IntKind.i64.wrap ((IntKind.i64.wrap ((IntKind.i64.wrap ((IntKind.i64.wrap (58 + (IntKind.i64.wrap (76 * ((p.Procs.length : Nat) : Int))))) + (IntKind.i64.wrap (68 * ((p.Pages.length : Nat) : Int))))) + p.Events)) + ((p.Sems.length : Nat) : Int))) trivial
    (fun i x z hi hx _=>⟨by
      obtain⟨e,he⟩:=Zrj x;simp only [Ub,hi,hx,decide_true,cond_true,Option.bind_some,he],trivial⟩) (fun z _=>by simp [Ub])
  simp only [Zbp,h.1,Option.bind_some,Zh9]
theorem Zrk (p : GPlan) : Zda p=some (Zh9 p):=by
  have h:=Zhc (L:=Hh p) (l:=p.Ports) (g:=fun z x=>IntKind.i64.wrap (z + IntKind.i64.wrap (3 + Znu x))) (I:=fun _ _=>True)
    (z:=IntKind.i64.wrap ((IntKind.i64.wrap ((IntKind.i64.wrap ((IntKind.i64.wrap (58 + (IntKind.i64.wrap (76 * ((p.Procs.length : Nat) : Int))))) + (IntKind.i64.wrap (68 * ((p.Pages.length : Nat) : Int))))) + p.Events)) + ((p.Sems.length : Nat) : Int))) trivial
    (fun i x z hi hx _=>⟨by
      obtain⟨e,he⟩:=Zs7 x;simp only [Hh,hi,hx,decide_true,cond_true,Option.bind_some,he],trivial⟩) (fun z _=>by simp [Hh])
  simp only [Zda,h.1,Option.bind_some,Zh9]
def orE (a b : ErrM) : ErrM:=if a=.nil then b else a
def Zpn (p : GPlan) : ErrM:=orE (Ze9 p) (orE (Zch p) (if 4096 < Zh9 p then .v Zcn else .nil))
theorem Zrl (p : GPlan) : Gp p=some (Zpn p):=by
  have h2:=Wo (L:=Yk p) (l:=p.Ports) (f:=Zba) (fun i x hi hx=>by
    simp only [Yk,hi,hx,decide_true,cond_true,Option.bind_some,Zgk,Zba]
    rcases Zdq x with h | ⟨g,h⟩
    · rw [h];rfl
    · rw [h];rfl) (by simp [Yk])
  have h1:=Wo (L:=Yj p) (l:=p.Sems) (f:=Zl2) (fun i x hi hx=>by
    simp only [Yj,hi,hx,decide_true,cond_true,Option.bind_some,Znt,Bool.cond_eq_ite,Bool.or_eq_true,decide_eq_true_eq,Zl2,Zht,Tw,Zbn,if_true];split <;> rfl) (by simp [Yj])
  simp only [Gp,h1,h2,Zpm,Option.bind_some,Bool.cond_eq_ite,Bool.or_eq_true,decide_eq_true_eq,Zpn,Ze9,Zch];have hp : ∀ e,Ja Zba 0 p.Ports=some e → e ≠ .nil:=by
    have key : ∀ (l : List GPortPlan) k e,Ja Zba k l=some e → e ≠ .nil:=by
      intro l
      induction l with
      | nil=>intro k e h;cases h
      | cons x r ih=>
        intro k e h
        rcases Zdq x with hs | ⟨g,hs⟩
        · simp only [Ja,Zba,hs] at h;exact ih _ _ h
        · simp only [Ja,Zba,hs,Option.some.injEq] at h;subst h;intro h;cases h
    exact key _ _
  have hq : ∀ e,Ja Zl2 0 p.Sems=some e → e ≠ .nil:=by
    have key : ∀ (l : List Int) k e,Ja Zl2 k l=some e → e ≠ .nil:=by
      intro l
      induction l with
      | nil=>intro k e h;cases h
      | cons x r ih=>
        intro k e h
        by_cases hs : x < 0 ∨ 255 < x
        · simp only [Ja,Zl2,if_pos hs,Option.some.injEq] at h;subst h;intro h;cases h
        · simp only [Ja,Zl2,if_neg hs] at h;exact ih _ _ h
    exact key _ _
  by_cases c1 : 8 < p.Ports.length
  · simp only [c1,if_true,orE];rfl
  simp only [c1,if_false];cases h3 : Ja Zba 0 p.Ports with
  | some e=>
    have:=hp e h3;simp only [fin,orN,Option.getD_some,orE,this,if_false]
  | none=>
    simp only [fin,orN,Option.getD_none,orE,if_true]
    by_cases c2 : p.Events < 0 ∨ 8 < p.Events
    · simp only [c2,if_true];rfl
    simp only [c2,if_false]
    by_cases c3 : 8 < p.Sems.length
    · simp only [c3,if_true];rfl
    simp only [c3,if_false];cases h4 : Ja Zl2 0 p.Sems with
    | some e=>
      have:=hq e h4;simp only [fin,orN,Option.getD_some,this,if_false]
    | none=>
      simp only [fin,orN,Option.getD_none,if_true];split <;> rfl
def Zdr (p : GPlan) : ErrM:=if p.Id < 0 ∨ 2147483647 < p.Id then .v Hm else orE (Zen p) (orE (Zeo p) (Zpn p))
theorem Zku (p : GPlan) : Zbq p=some (Zdr p):=by
  simp only [Zbq,Zpk,Zpl,Zrl,Option.bind_some,Bool.cond_eq_ite,Bool.or_eq_true,decide_eq_true_eq,Zdr,Bool.not_eq_true',decide_eq_false_iff_not,orE]
  repeat' split
  all_goals first | rfl | (simp_all;done)
def eR (e : ErrM) : GR10Err:=⟨e.code,e.place⟩
theorem Zrm (p : GPlan) : Zc7 p=some (eR (Zen p)):=by
  have h:=Wo (L:=Ui p) (l:=p.Pages) (f:=fun i x=>(Zje i x).map eR) (fun i x hi hx=>by
    simp only [Ui,Zau,hi,hx,decide_true,cond_true,Option.bind_some,Bool.cond_eq_ite,decide_eq_true_eq,Zje]
    by_cases c1 : x.Rights < 0
    · simp only [c1,if_true,true_or,Option.bind_some,Option.map_some,Tw];rfl
    by_cases c2 : 7 < x.Rights
    · simp only [c1,c2,if_true,if_false,decide_true,or_true,Option.bind_some,Option.map_some,Tw];rfl
    by_cases c3 : 64 < x.Init.size
    · simp [c1,c2,c3,Tw];rfl
    · simp [c1,c2,c3,Zbn]) (by simp [Ui])
  simp only [Zc7,Wk,Wf,h,Zen,Option.bind_some,Bool.cond_eq_ite,Bool.or_eq_true,decide_eq_true_eq];rw [Zel (f:=Zje) (m:=eR) _ _ fun _ _ _=>rfl];cases Ja Zje 0 p.Pages <;> (split <;> rfl)
theorem Zrn (p : GPlan) : Zc8 p=some (eR (Zeo p)):=by
  have h:=Wo (L:=Hf p) (l:=p.Procs) (f:=fun i x=>(Zhf p.Pages.length i x).map eR) (fun i x hi hx=>by
    by_cases c1 : x.Entry < 0 <;> by_cases c2 : IntKind.i64.wrap (64 * (p.Pages.length : Int)) ≤ x.Entry <;> by_cases c3 : Int.tmod x.Entry 4=0 <;> by_cases c4 : x.Prio < 0 <;> by_cases c5 : 255 < x.Prio
    all_goals
      simp only [Hf,Zbj,hi,hx,decide_true,decide_false,cond_true,cond_false,Option.bind_some,Zhf,c1,c2,c3,c4,c5,Bool.not_true,Bool.not_false,true_or,or_true,or_false,false_or,if_true,if_false,ne_eq,not_true_eq_false,not_false_eq_true];rfl) (by simp [Hf])
  simp only [Zc8,Wk,Wf,h,Zeo,Option.bind_some,Bool.cond_eq_ite,Bool.or_eq_true,decide_eq_true_eq];rw [Zel (f:=Zhf p.Pages.length) (m:=eR) _ _ fun _ _ _=>rfl];cases Ja (Zhf p.Pages.length) 0 p.Procs <;> (split <;> rfl)
theorem Zro (p : GPlan) : Zc9 p=some (eR (Ze9 p)):=by
  have h:=Wo (L:=Hg p) (l:=p.Ports) (f:=fun i x=>(Zba i x).map eR) (fun i x hi hx=>by
    simp only [Hg,hi,hx,decide_true,cond_true,Option.bind_some,Zhe,Bool.cond_eq_ite,Bool.not_eq_true',decide_eq_false_iff_not,Zem,Zba]
    rcases Zdq x with h | ⟨g,h⟩
    · rw [h];rfl
    · rw [h,if_pos (show ¬ ErrM.v g=.nil from fun h=>by cases h)];rfl) (by simp [Hg])
  simp only [Zc9,Wk,Wf,h,Ze9,Option.bind_some,Bool.cond_eq_ite,decide_eq_true_eq];rw [Zel (f:=Zba) (m:=eR) _ _ fun _ _ _=>rfl];cases Ja Zba 0 p.Ports <;> (split <;> rfl)
theorem Zpo (p : GPlan) : Zbt p=some (eR (Zch p)):=by
  have h:=Wo (L:=Uk p) (l:=p.Sems) (f:=fun i x=>(Zl2 i x).map eR) (fun i x hi hx=>by
    by_cases c1 : x < 0 <;> by_cases c2 : 255 < x
    all_goals
      simp only [Uk,Zav,hi,hx,decide_true,decide_false,cond_true,cond_false,Option.bind_some,Zl2,c1,c2,true_or,or_true,or_false,false_or,if_true,if_false];rfl) (by simp [Uk])
  simp only [Zbt,Wk,Wf,h,Zch,Option.bind_some,Bool.cond_eq_ite,Bool.or_eq_true,decide_eq_true_eq];rw [Zel (f:=Zl2) (m:=eR) _ _ fun _ _ _=>rfl]
  by_cases c1 : p.Events < 0 ∨ 8 < p.Events
  · simp only [c1,if_true];rfl
  by_cases c2 : 8 < p.Sems.length
  · simp only [c1,c2,if_true,if_false];rfl
  simp only [c1,c2,if_false];cases Ja Zl2 0 p.Sems <;> rfl
theorem Zrp (p : GPlan) : Zdb p=some (eR (Zdr p)):=by
  simp only [Zdb,Zrm,Zrn,Zro,Zpo,Zrk,Wk,Wf,Option.bind_some,Bool.cond_eq_ite,Bool.or_eq_true,decide_eq_true_eq,Zdr,Zpn,orE];have hL : ∀ i x,i < 4 → [eR (Zen p),eR (Zeo p),eR (Ze9 p),eR (Zch p)][i]? = some x → Wq (eR (Zen p)) (eR (Zeo p)) (eR (Ze9 p)) (eR (Zch p)) i=some (nxt (i + 1) (if x.Code=0 then none else some x)):=by
    intro i x hi hx;have hi' : i < [eR (Zen p),eR (Zeo p),eR (Ze9 p),eR (Zch p)].length:=hi;simp only [Wq,hi',hx,decide_true,cond_true,Option.bind_some,Bool.cond_eq_ite,Bool.not_eq_true',decide_eq_false_iff_not]
    by_cases c : x.Code=0
    · simp only [c,not_true_eq_false,if_false,if_true,Zbn]
    · simp only [c,not_false_eq_true,if_false,if_true,Tw]
  have h:=Wo (L:=Wq (eR (Zen p)) (eR (Zeo p)) (eR (Ze9 p)) (eR (Zch p))) (l:=[eR (Zen p),eR (Zeo p),eR (Ze9 p),eR (Zch p)]) (f:=fun _ x=>if x.Code=0 then none else some x) hL (by simp [Wq]);rw [h];have hc : ∀ e : ErrM,(eR e).Code=0 ↔ e=.nil:=fun e=>Zem
  simp only [Ja,hc]
  by_cases c0 : p.Id < 0 ∨ 2147483647 < p.Id
  · simp only [c0,if_true];rfl
  simp only [c0,if_false]
  by_cases c1 : Zen p=.nil
  · simp only [c1,if_true]
    by_cases c2 : Zeo p=.nil
    · simp only [c2,if_true]
      by_cases c3 : Ze9 p=.nil
      · simp only [c3,if_true]
        by_cases c4 : Zch p=.nil
        · simp only [c4,if_true];show Option.bind (some (Sum.inl ())) _=_
          by_cases c5 : 4096 < Zh9 p
          · simp only [c5,if_true,Option.bind_some];rfl
          · simp only [c5,if_false,Option.bind_some];rfl
        · simp only [c4,if_false];rfl
      · simp only [c3,if_false];rfl
    · simp only [c2,if_false];rfl
  · simp only [c1,if_false];rfl
theorem Zhg (p : GPlan) : Zcz p=some (decide (Zdr p=.nil)):=by
  have : ((eR (Zdr p)).Code=0)=(Zdr p=.nil):=propext Zem;simp only [Zcz,Zrp,Option.bind_some,this]
end Go.Proofs.YtjekfpnpfllaoaaGreatDoor
set_option linter.unusedVariables false
set_option linter.unusedSimpArgs false
set_option linter.unusedSectionVars false
namespace Go.Proofs.YtjekfpnpfllaoaaGreatDoor
open Go Go.RowKit
theorem Zjf {α : Type} {l : List α} {i : Nat} {x : α} (h : l[i]? = some x) : l.take (i + 1)=l.take i ++ [x]:=by rw [List.take_add_one,h];rfl
section
variable {σ ρ α : Type}
theorem Zf9 {L : σ → Option (σ ⊕ ρ)} (I : σ → Prop) (Q : ρ → Prop) (μ : σ → Nat)
    (h : ∀ s,I s → (∃ s',L s=some (.inl s') ∧ I s' ∧ μ s' < μ s) ∨ (∃ r,L s=some (.inr r) ∧ Q r)) {s : σ} (h0 : I s) : ∃ r,Kp L s=some r ∧ Q r:=by
  have key : ∀ n s,μ s < n → I s → ∃ r,Kp L s=some r ∧ Q r:=by
    intro n
    induction n with
    | zero=>intro s hs;omega
    | succ n ih=>
      intro s hs hI
      rcases h s hI with ⟨s',h1,h2,h3⟩ | ⟨r,h1,h2⟩
      · obtain⟨r,h4,h5⟩:=ih s' (by omega) h2;exact⟨r,(Vw h1).trans h4,h5⟩
      · exact⟨r,Yz h1,h2⟩
  exact key _ s (Nat.lt_succ_self _) h0
theorem Zf1 {f : Nat → α → Option ErrM} (hf : ∀ i x,f i x ≠ some .nil) : ∀ {l : List α} {k : Nat},orN (Ja f k l)=.nil → ∀ i x,l[i]? = some x → f (k + i) x=none
  | [],_,_,i,x,hx=>by simp at hx
  | y :: r,k,h,i,x,hx=>by
    cases hy : f k y with
    | some e=>
      simp only [Ja,hy,orN,Option.getD_some] at h;subst h;exact absurd hy (hf k y)
    | none=>
      simp only [Ja,hy] at h;cases i with
      | zero=>
        have : y=x:=by simpa using hx
        subst this;exact hy
      | succ j=>
        have:=Zf1 hf h j x (by simpa using hx)
        rwa [show k + 1 + j=k + (j + 1) by omega] at this
end
theorem Zil {a b : ErrM} (h : orE a b=.nil) : a=.nil ∧ b=.nil:=by
  unfold orE at h
  by_cases c : a=.nil
  · rw [if_pos c] at h;exact⟨c,h⟩
  · rw [if_neg c] at h;exact absurd h c
structure OkK (p : GPlan) : Prop where
  id0 : 0 ≤ p.Id
  id1 : p.Id ≤ 2147483647
  pg0 : 1 ≤ p.Pages.length
  pg1 : p.Pages.length ≤ 32
  pr0 : 1 ≤ p.Procs.length
  pr1 : p.Procs.length ≤ 8
  po1 : p.Ports.length ≤ 8
  ev0 : 0 ≤ p.Events
  ev1 : p.Events ≤ 8
  se1 : p.Sems.length ≤ 8
  pag : ∀ x ∈ p.Pages,0 ≤ x.Rights ∧ x.Rights ≤ 7 ∧ x.Init.size ≤ 64
  prio : ∀ x ∈ p.Procs,0 ≤ x.Prio ∧ x.Prio ≤ 255 ∧ 0 ≤ x.Entry ∧ x.Entry < 2048 ∧ x.Entry < 64 * (p.Pages.length : Int) ∧ Int.tmod x.Entry 4=0
  dep : ∀ x ∈ p.Ports,Zhd x=.nil ∧ 1 ≤ x.Kind ∧ x.Kind ≤ 4 ∧ 1 ≤ x.Size ∧ x.Size ≤ 32 ∧ 1 ≤ x.Depth ∧ x.Depth ≤ 8 ∧ 0 ≤ x.Refresh ∧ x.Refresh ≤ 255
  bnd : Zh9 p ≤ 4096
  sem : ∀ n ∈ p.Sems,0 ≤ n ∧ n ≤ 255
theorem okK_of {p : GPlan} (h : Zdr p=.nil) : OkK p:=by
  unfold Zdr at h
  by_cases c0 : p.Id < 0 ∨ 2147483647 < p.Id
  · rw [if_pos c0] at h;cases h
  rw [if_neg c0] at h;obtain⟨h1,h2⟩:=Zil h;obtain⟨h2,h3⟩:=Zil h2;unfold Zpn at h3;obtain⟨h3,h4⟩:=Zil h3;obtain⟨h4,h5⟩:=Zil h4;unfold Zen at h1
  by_cases c1 : p.Pages.length < 1 ∨ 32 < p.Pages.length
  · rw [if_pos c1] at h1;cases h1
  rw [if_neg c1] at h1;have c6 : ¬ 4096 < Zh9 p:=fun h=>by rw [if_pos h] at h5;cases h5
  have hw : IntKind.i64.wrap (64 * (p.Pages.length : Int))=64 * (p.Pages.length : Int):=Vb ⟨by omega,by omega⟩;unfold Zeo at h2
  by_cases c2 : p.Procs.length < 1 ∨ 8 < p.Procs.length
  · rw [if_pos c2] at h2;cases h2
  rw [if_neg c2] at h2;unfold Ze9 at h3
  by_cases c3 : 8 < p.Ports.length
  · rw [if_pos c3] at h3;cases h3
  rw [if_neg c3] at h3;unfold Zch at h4
  by_cases c4 : p.Events < 0 ∨ 8 < p.Events
  · rw [if_pos c4] at h4;cases h4
  rw [if_neg c4] at h4
  by_cases c5 : 8 < p.Sems.length
  · rw [if_pos c5] at h4;cases h4
  rw [if_neg c5] at h4;refine⟨by omega,by omega,by omega,by omega,by omega,by omega,by omega,by omega,by omega,by omega,fun x hx=>?_,fun x hx=>?_,fun x hx=>?_,by omega,fun x hx=>?_⟩
  · obtain⟨i,hi⟩:=List.mem_iff_getElem?.1 hx;have:=Zf1 (f:=Zje) (fun i x=>by unfold Zje;(repeat' split) <;> intro h <;> cases h) h1 i x hi;unfold Zje at this
    repeat' split at this
    all_goals first | (cases this;done) | omega
  · obtain⟨i,hi⟩:=List.mem_iff_getElem?.1 hx;have:=Zf1 (f:=Zhf p.Pages.length) (fun i x=>by unfold Zhf;split <;> intro h <;> cases h) h2 i x hi;unfold Zhf at this;rw [hw] at this;split at this
    · cases this
    · omega
  · obtain⟨i,hi⟩:=List.mem_iff_getElem?.1 hx;have:=Zf1 (f:=Zba) (fun i x=>by unfold Zba;split <;> intro h <;> cases h) h3 i x hi;unfold Zba at this
    rcases Zdq x with e | ⟨g,e⟩
    · refine⟨e,?_⟩;unfold Zhd at e
      repeat' split at e
      all_goals first | (cases e;done) | omega
    · rw [e] at this;cases this
  · obtain⟨i,hi⟩:=List.mem_iff_getElem?.1 hx;have:=Zf1 (f:=Zl2) (fun i x=>by unfold Zl2;split <;> intro h <;> cases h) h4 i x hi;unfold Zl2 at this;split at this
    · cases this
    · omega
section
variable {α : Type}
theorem Zjg (q : α → Bool) : ∀ (l : List α) (k : Nat),Ja (fun _ x=>if q x=true then none else some false) k l=if l.all q=true then none else some false
  | [],_=>rfl
  | x :: r,k=>by
    have ih:=Zjg q r (k + 1)
    rcases Bool.eq_false_or_eq_true (q x) with h|h <;> simp [Ja,h,ih]
theorem Zmr {L : Nat → Option (Nat ⊕ (Unit ⊕ Bool))} {a b : List α} (q : α → α → Bool) (hl : a.length=b.length)
    (h : ∀ i x y,i < a.length → a[i]? = some x → b[i]? = some y → L i=some (if q x y=true then .inl (i + 1) else .inr (.inr false))) (h2 : L a.length=some (.inr (.inl ()))) :
    Kp L 0=some (if (a.zip b).all (fun p=>q p.1 p.2)=true then .inl () else .inr false):=by
  have hz : (a.zip b).length=a.length:=by rw [List.length_zip,← hl,Nat.min_self]
  have hL:=Wo (L:=L) (l:=a.zip b) (f:=fun _ p=>if q p.1 p.2=true then none else some false) (fun i p hi hp=>by
    obtain⟨h3,h4⟩:=List.getElem?_zip_eq_some.1 hp;rw [h i p.1 p.2 (by omega) h3 h4,Zht,Zbn,Tw]) (by rw [hz];exact h2)
  rw [hL,Zjg (fun p : α × α=>q p.1 p.2)];split <;> rfl
theorem Znv [DecidableEq α] : ∀ {a b : List α},a.length=b.length → (((a.zip b).all fun p=>decide (p.1=p.2))=true ↔ a=b)
  | [],[],_=>by simp
  | [],y :: b,h=>by simp at h
  | x :: a,[],h=>by simp at h
  | x :: a,y :: b,h=>by
    have ih:=Znv (a:=a) (b:=b) (by simpa using h);simp only [List.zip_cons_cons,List.all_cons,Bool.and_eq_true,decide_eq_true_eq,List.cons.injEq,ih]
theorem Zga {L : Nat → Option (Nat ⊕ (Unit ⊕ Bool))} {a b : List α} [DecidableEq α] (hl : a.length=b.length)
    (h : ∀ i x y,i < a.length → a[i]? = some x → b[i]? = some y → L i=some (if decide (x=y)=true then .inl (i + 1) else .inr (.inr false))) (h2 : L a.length=some (.inr (.inl ()))) :
    Kp L 0=some (if a=b then .inl () else .inr false):=by
  rw [Zmr (fun x y=>decide (x=y)) hl h h2]
  congr 1
  by_cases e : a=b
  · rw [if_pos e,if_pos ((Znv hl).2 e)]
  · rw [if_neg e,if_neg (fun h=>e ((Znv hl).1 h))]
end
theorem Zhu {α : Type} {a b : List α} (h : ¬ a.length=b.length) : ¬ a=b:=fun e=>h (by rw [e])
abbrev Zpp : Nat:=140737488355328
def Znw (p : GPlan) : Prop:=p.Pages.length * 24 ≤ Zpp ∧ p.Procs.length * 24 ≤ Zpp ∧ p.Ports.length * 32 ≤ Zpp ∧ p.Sems.length * 8 ≤ Zpp
theorem Zrq (p : GPlan) (h : Znw p) : Zeg p=some p:=by
  obtain⟨h1,h2,h3,h4⟩:=h;simp only [Zpp] at *;simp only [Zeg,List.nil_append,List.length_nil,Nat.zero_add,chk,h1,h2,h3,h4,if_true]
theorem Zpq (a b : List Int) : Kv a b=some (decide (a=b)):=by
  by_cases hl : a.length=b.length
  · have h:=Zga (L:=Kl a b) hl (fun i x y hi hx hy=>by
      simp only [Kl,hi,hx,hy,decide_true,cond_true,Option.bind_some]
      by_cases e : x=y <;> simp [e]) (by simp [Kl])
    simp only [Kv,hl,decide_true,Bool.not_true,cond_false,h,Option.bind_some]
    by_cases e : a=b <;> simp [e]
  · simp only [Kv,hl,decide_false,Bool.not_false,cond_true,Zhu hl]
section
variable {α σ τ : Type}
def Zg0 (q : Nat → α → Bool) : Nat → List α → Bool
  | _,[]=>true
  | k,x :: r=>q k x && Zg0 q (k + 1) r
theorem Wb (q : α → Bool) : ∀ (l : List α) (k : Nat),Zg0 (fun _ x=>q x) k l=l.all q
  | [],_=>rfl
  | x :: r,k=>by simp only [Zg0,List.all_cons,Wb q r (k + 1)]
theorem Zim {q : Nat → α → Bool} : ∀ {l : List α} {k : Nat},Zg0 q k l=true ↔ ∀ i x,l[i]? = some x → q (k + i) x=true
  | [],k=>by simp [Zg0]
  | x :: r,k=>by
    rw [Zg0,Bool.and_eq_true,Zim];constructor
    · intro ⟨h1,h2⟩ i y hy;cases i with
      | zero=>
        have : x=y:=by simpa using hy
        subst this;exact h1
      | succ j=>have := h2 j y (by simpa using hy);rwa [show k + (j + 1)=k + 1 + j by omega]
    · intro h;exact⟨h 0 x rfl,fun i y hy=>(show k + (i + 1)=k + 1 + i by omega) ▸ h (i + 1) y (by simpa using hy)⟩
theorem Zjh {L : σ × Nat → Option ((σ × Nat) ⊕ (τ ⊕ Bool))} {l : List α} (st : Nat → σ) {z : τ} (q : Nat → α → Bool)
    (h : ∀ i x,i < l.length → l[i]? = some x → L (st i,i)=some (if q i x=true then .inl (st (i + 1),i + 1) else .inr (.inr false))) (h2 : L (st l.length,l.length)=some (.inr (.inl z))) :
    Kp L (st 0,0)=some (if Zg0 q 0 l=true then .inl z else .inr false):=by
  have key : ∀ m k,k + m=l.length → Kp L (st k,k)=some (if Zg0 q k (l.drop k)=true then .inl z else .inr false):=by
    intro m
    induction m with
    | zero=>
      intro k hk;obtain rfl : k=l.length:=by omega
      rw [Yz h2,List.drop_length];rfl
    | succ m ih=>
      intro k hk;have hlt : k < l.length:=by omega
      have hx : l[k]? = some l[k]:=List.getElem?_eq_getElem hlt;have hs:=h k _ hlt hx;rw [List.drop_eq_getElem_cons hlt,Zg0]
      rcases Bool.eq_false_or_eq_true (q k l[k]) with e|e
      · rw [if_pos e] at hs;rw [Vw hs,ih (k + 1) (by omega),e,Bool.true_and]
      · rw [if_neg (by simp [e])] at hs;rw [Yz hs,e];rfl
  simpa using key l.length 0 (by omega)
theorem Vv {L : Nat → Option (Nat ⊕ (τ ⊕ Bool))} {l : List α} {z : τ} (q : Nat → α → Bool)
    (h : ∀ i x,i < l.length → l[i]? = some x → L i=some (if q i x=true then .inl (i + 1) else .inr (.inr false))) (h2 : L l.length=some (.inr (.inl z))) :
    Kp L 0=some (if Zg0 q 0 l=true then .inl z else .inr false):=by
  have key : ∀ m k,k + m=l.length → Kp L k=some (if Zg0 q k (l.drop k)=true then .inl z else .inr false):=by
    intro m
    induction m with
    | zero=>
      intro k hk;obtain rfl : k=l.length:=by omega
      rw [Yz h2,List.drop_length];rfl
    | succ m ih=>
      intro k hk;have hlt : k < l.length:=by omega
      have hx : l[k]? = some l[k]:=List.getElem?_eq_getElem hlt;have hs:=h k _ hlt hx;rw [List.drop_eq_getElem_cons hlt,Zg0]
      rcases Bool.eq_false_or_eq_true (q k l[k]) with e|e
      · rw [if_pos e] at hs;rw [Vw hs,ih (k + 1) (by omega),e,Bool.true_and]
      · rw [if_neg (by simp [e])] at hs;rw [Yz hs,e];rfl
  simpa using key l.length 0 (by omega)
theorem Zb7 {L : Int → Option (Int ⊕ (τ ⊕ Bool))} {l : List α} {z : τ} (q : Nat → α → Bool)
    (h : ∀ (i : Nat) x,i < l.length → l[i]? = some x → L (i : Int)=some (if q i x=true then .inl ((i + 1 : Nat) : Int) else .inr (.inr false))) (h2 : L (l.length : Int)=some (.inr (.inl z))) :
    Kp L 0=some (if Zg0 q 0 l=true then .inl z else .inr false):=by
  have key : ∀ m (k : Nat),k + m=l.length → Kp L (k : Int)=some (if Zg0 q k (l.drop k)=true then .inl z else .inr false):=by
    intro m
    induction m with
    | zero=>
      intro k hk;obtain rfl : k=l.length:=by omega
      rw [Yz h2,List.drop_length];rfl
    | succ m ih=>
      intro k hk;have hlt : k < l.length:=by omega
      have hx : l[k]? = some l[k]:=List.getElem?_eq_getElem hlt;have hs:=h k _ hlt hx;rw [List.drop_eq_getElem_cons hlt,Zg0]
      rcases Bool.eq_false_or_eq_true (q k l[k]) with e|e
      · rw [if_pos e] at hs;rw [Vw hs,ih (k + 1) (by omega),e,Bool.true_and]
      · rw [if_neg (by simp [e])] at hs;rw [Yz hs,e];rfl
  simpa using key l.length 0 (by omega)
theorem Zji (b : α → Bool) : ∀ (l : List α) (k : Nat),match Ja (fun i x=>if b x=true then some ((i : Nat) : Int) else none) k l with
    | none=>l.any b=false
    | some e=>l.any b=true ∧ 0 ≤ e
  | [],_=>rfl
  | x :: r,k=>by
    by_cases h : b x=true
    · simp only [Ja,h,if_true,List.any_cons,Bool.true_or,true_and];omega
    · have ih:=Zji b r (k + 1);simp only [Bool.not_eq_true] at h;simp only [Ja,h,Bool.false_eq_true,if_false,List.any_cons,Bool.false_or];exact ih
end
theorem Zms (l : List Int) (f : Int → Option Bool) (b : Int → Bool) (hf : ∀ x,f x=some (b x)) : Jz l f=some (l.any b):=by
  have h:=Wo (L:=Xu l f) (l:=l) (f:=fun i x=>if b x=true then some ((i : Nat) : Int) else none) (fun i x hi hx=>by
    simp only [Xu,hi,hx,decide_true,cond_true,Option.bind_some,hf,Bool.cond_eq_ite,Zht,Tw,Zbn,if_true];split <;> rfl) (by simp [Xu])
  simp only [Jz,Vz,h];have hk:=Zji b l 0;cases he : Ja (fun i x=>if b x=true then some ((i : Nat) : Int) else none) 0 l with
  | none=>rw [he] at hk;rw [hk];rfl
  | some e=>rw [he] at hk;rw [hk.1];simp [fin,hk.2]
theorem Zjj (l : List ByteArray) (f : ByteArray → Option Bool) (b : ByteArray → Bool) (hf : ∀ x,f x=some (b x)) : Xz l f=some (l.any b):=by
  have h:=Wo (L:=Xk l f) (l:=l) (f:=fun i x=>if b x=true then some ((i : Nat) : Int) else none) (fun i x hi hx=>by
    simp only [Xk,hi,hx,decide_true,cond_true,Option.bind_some,hf,Bool.cond_eq_ite,Zht,Tw,Zbn,if_true];split <;> rfl) (by simp [Xk])
  simp only [Xz,Yq,h];have hk:=Zji b l 0;cases he : Ja (fun i x=>if b x=true then some ((i : Nat) : Int) else none) 0 l with
  | none=>rw [he] at hk;rw [hk];rfl
  | some e=>rw [he] at hk;rw [hk.1];simp [fin,hk.2]
def bt (n lo hi : Int) : Bool:=decide (lo ≤ n) && decide (n ≤ hi)
def wn (n m : Int) : Bool:=decide (0 ≤ n) && decide (n < m)
theorem Zcv (n lo hi : Int) : Jf n lo hi=some (bt n lo hi):=rfl
theorem Hw (n m : Int) : Jh n m=some (wn n m):=rfl
theorem Zg1 {α : Type} {l : List α} {n : Int} (h : wn n l.length=true) : ∃ x,rdI l n=some x:=by
  simp only [wn,Bool.and_eq_true,decide_eq_true_eq] at h;have hz : n.toNat < l.length:=by omega
  exact⟨l[n.toNat],by simp [rdI,h.1,hz]⟩
theorem Zmt {n a b : Int} (h : wn n a=true) (hab : a ≤ b) : wn n b=true:=by
  simp only [wn,Bool.and_eq_true,decide_eq_true_eq] at h ⊢;omega
def Zp6 (s : GState) (n : Int) : Int:=match rdI s.Procs n with
  | some x=>x.State
  | none=>0
def pkAt (p : GPlan) (n : Int) : Int:=match rdI p.Ports n with
  | some x=>x.Kind
  | none=>0
def mn (a b : Int) : Int:=if b < a then b else a
theorem Zmu (a b : Int) : mn a b ≤ a ∧ mn a b ≤ b:=by unfold mn;split <;> omega
theorem Zu8 (a b : Int) : mn a b=mn b a:=by unfold mn;split <;> split <;> omega
def K1 (p : GPlan) (s : GState) : Bool:=decide (s.Id=p.Id)
def K2 (s : GState) : Bool:=bt s.Frame 0 2147483647 && bt s.Epoch 0 2147483647
def K3 (p : GPlan) (s : GState) : Bool:=decide (s.Procs.length=p.Procs.length) && decide (s.Ports.length=p.Ports.length) && decide (s.Pages.length=p.Pages.length) && decide ((s.Up.length : Int)=p.Events) && decide (s.Sems.length=p.Sems.length)
def k4 (x : GProc) : Bool:=decide (x.Regs[0]=0) && bt x.State 0 3 && bt x.Prio 0 255 && bt x.Wait 0 4
def K4 (s : GState) : Bool:=s.Procs.all k4
def k5 (x : GProc) : Bool:=(!decide (x.Wait=0)) == decide (x.State=2)
def K5 (s : GState) : Bool:=s.Procs.all k5
def k6 (p : GPlan) (x : GProc) : Bool:=if x.Wait=2 then wn x.Obj p.Events else if x.Wait=3 then wn x.Obj p.Sems.length else if x.Wait=4 then wn x.Obj p.Ports.length && (decide (pkAt p x.Obj=3) || decide (pkAt p x.Obj=4)) else decide (x.Obj=0)
def K6 (p : GPlan) (s : GState) : Bool:=s.Procs.all (k6 p)
def q7 (s : GState) (i : Nat) (n : Int) : Bool:=wn n s.Procs.length && !decide (n ∈ s.Ready.take i) && decide (Zp6 s n=1)
def q7b (s : GState) (i : Nat) (x : GProc) : Bool:=!decide (x.State=1) || decide (((i : Nat) : Int) ∈ s.Ready)
def K7 (s : GState) : Bool:=Zg0 (q7 s) 0 s.Ready && Zg0 (q7b s) 0 s.Procs
def Znx (s : GState) (i : Nat) (t : GTimer) : Bool:=match i with
  | 0=>true
  | j + 1=>match s.Timers[j]? with
    | some y=>!(decide (t.Due < y.Due) || (decide (y.Due=t.Due) && decide (t.Proc ≤ y.Proc)))
    | none=>true
def q8 (s : GState) (i : Nat) (t : GTimer) : Bool:=wn t.Proc s.Procs.length && !decide (t.Proc ∈ (s.Timers.map GTimer.Proc).take i) && bt t.Due 0 1010000 && Znx s i t
def K8 (s : GState) : Bool:=Zg0 (q8 s) 0 s.Timers
def q9 (s : GState) (_ : Nat) (t : GTimer) : Bool:=!(wn t.Proc s.Procs.length && !decide (Zp6 s t.Proc=2))
def q9b (s : GState) (i : Nat) (x : GProc) : Bool:=!decide (x.Wait=1) || decide (((i : Nat) : Int) ∈ s.Timers.map GTimer.Proc)
def K9 (s : GState) : Bool:=Zg0 (q9 s) 0 s.Timers && Zg0 (q9b s) 0 s.Procs
def K10 (s : GState) : Bool:=s.Sems.all fun n=>bt n 0 255
def k11 (a : GPortPlan × GPort) : Bool:=decide ((a.2.Msgs.length : Int) ≤ a.1.Depth) && !(a.2.Msgs.any fun m=>decide (a.1.Size < (m.size : Int)))
def K11 (p : GPlan) (s : GState) : Bool:=(p.Ports.zip s.Ports).all k11
def k12 (a : GPortPlan × GPort) : Bool:=bt a.2.Age 0 255 && (decide (a.2.Age=0) || (decide (a.1.Kind=1) && decide (0 < a.2.Msgs.length)))
def K12 (p : GPlan) (s : GState) : Bool:=(p.Ports.zip s.Ports).all k12
def K13 (p : GPlan) (s : GState) : Bool:=(p.Pages.zip s.Pages).all fun a=>decide (a.1.Rights=a.2.Rights)
def upAt (s : GState) (n : Int) : Bool:=(rdI s.Up n).getD false
def smAt (s : GState) (n : Int) : Int:=(rdI s.Sems n).getD 0
def k14 (p : GPlan) (s : GState) (x : GProc) : Bool:=!(decide (x.Wait=2) && wn x.Obj (mn s.Up.length p.Events) && upAt s x.Obj)
def K14 (p : GPlan) (s : GState) : Bool:=s.Procs.all (k14 p s)
def k15 (p : GPlan) (s : GState) (x : GProc) : Bool:=!(decide (x.Wait=3) && wn x.Obj (mn s.Sems.length p.Sems.length) && !decide (smAt s x.Obj=0))
def K15 (p : GPlan) (s : GState) : Bool:=s.Procs.all (k15 p s)
def k16i (q : GPortPlan) (r : GPort) : Bool:=if q.Kind=3 then decide (r.Msgs.length=0) else if q.Kind=4 then decide ((r.Msgs.length : Int)=q.Depth) else true
def k16 (p : GPlan) (s : GState) (x : GProc) : Bool:=if decide (x.Wait=4) && wn x.Obj (mn p.Ports.length s.Ports.length) then (match rdI p.Ports x.Obj,rdI s.Ports x.Obj with
  | some q,some r=>k16i q r
  | _,_=>true) else true
def K16 (p : GPlan) (s : GState) : Bool:=s.Procs.all (k16 p s)
def k17 (a : GPortPlan × GPort) : Bool:=!(decide (a.1.Kind=2) || decide (a.1.Kind=4)) || decide (a.2.Msgs.length=0)
def K17 (p : GPlan) (s : GState) : Bool:=(p.Ports.zip s.Ports).all k17
def Zt4 (s : GState) : Prop:=s.Timers.length ≤ 140737488355328 ∧ s.Ports.length ≤ 140737488355328 ∧ s.Pages.length ≤ 140737488355328
theorem Zbe (a : GValidAsked) {f : GProc → Option Bool} {b : GProc → Bool} (hf : ∀ x,f x=some (b x)) : Xi a f=some (a.s_.Procs.all b):=by
  have h:=Vv (L:=Ju a f) (l:=a.s_.Procs) (z:=()) (fun _ x=>b x) (fun i x hi hx=>by
    simp only [Ju,hi,hx,decide_true,cond_true,Option.bind_some,hf]
    rcases Bool.eq_false_or_eq_true (b x) with e|e <;> simp [e]) (by simp [Ju])
  rw [Wb] at h;simp only [Xi,h]
  rcases Bool.eq_false_or_eq_true (a.s_.Procs.all b) with e|e <;> simp [e]
theorem Zrr {α β : Type} (l : List α) (r : List β) : ((l.zip r).length : Int)=if (r.length : Int) < (l.length : Int) then (r.length : Int) else (l.length : Int):=by
  rw [List.length_zip];split <;> omega
theorem Zg2 (a : GValidAsked) {f : GPortPlan → GPort → Option Bool} {b : GPortPlan × GPort → Bool} (hok : Zt4 a.s_) (hf : ∀ x y,f x y=some (b (x,y))) : Ke a f=some ((a.p_.Ports.zip a.s_.Ports).all b):=by
  have hz:=Zrr a.p_.Ports a.s_.Ports;have h:=Zb7 (L:=Jw a f) (l:=a.p_.Ports.zip a.s_.Ports) (z:=()) (fun _ x=>b x) (fun i x hi hx=>by
    obtain⟨h1,h2⟩:=List.getElem?_zip_eq_some.1 hx;have hi' : ((i : Nat) : Int) < ((a.p_.Ports.zip a.s_.Ports).length : Int):=by omega
    rw [hz] at hi';have hl : i < a.s_.Ports.length:=(List.getElem?_eq_some_iff.1 h2).1;have hw : IntKind.i64.wrap ((i : Int) + 1)=((i + 1 : Nat) : Int):=by have:=hok.2.1;rw [Vb ⟨by omega,by omega⟩];rfl
    have e1 : rdI a.p_.Ports (i : Int)=some x.1:=by simp [rdI,h1]
    have e2 : rdI a.s_.Ports (i : Int)=some x.2:=by simp [rdI,h2]
    simp only [Jw,hi',e1,e2,hw,decide_true,cond_true,Option.bind_some,hf]
    rcases Bool.eq_false_or_eq_true (b x) with e|e <;> simp [e]) (by
    rw [hz];simp only [Jw,Int.lt_irrefl,decide_false,cond_false])
  rw [Wb] at h;simp only [Ke,h]
  rcases Bool.eq_false_or_eq_true ((a.p_.Ports.zip a.s_.Ports).all b) with e|e <;> simp [e]
theorem Zmv (a : GValidAsked) (hok : Zt4 a.s_) : Vd a=some (K13 a.p_ a.s_):=by
  have hz:=Zrr a.p_.Pages a.s_.Pages;have h:=Zb7 (L:=Jm a) (l:=a.p_.Pages.zip a.s_.Pages) (z:=()) (fun _ x=>decide (x.1.Rights=x.2.Rights)) (fun i x hi hx=>by
    obtain⟨h1,h2⟩:=List.getElem?_zip_eq_some.1 hx;have hi' : ((i : Nat) : Int) < ((a.p_.Pages.zip a.s_.Pages).length : Int):=by omega
    rw [hz] at hi';have hl : i < a.s_.Pages.length:=(List.getElem?_eq_some_iff.1 h2).1;have hw : IntKind.i64.wrap ((i : Int) + 1)=((i + 1 : Nat) : Int):=by have:=hok.2.2;rw [Vb ⟨by omega,by omega⟩];rfl
    have e1 : rdI a.p_.Pages (i : Int)=some x.1:=by simp [rdI,h1]
    have e2 : rdI a.s_.Pages (i : Int)=some x.2:=by simp [rdI,h2]
    simp only [Jm,hi',e1,e2,hw,decide_true,cond_true,Option.bind_some]
    by_cases e : x.1.Rights=x.2.Rights <;> simp [e]) (by
    rw [hz];simp only [Jm,Int.lt_irrefl,decide_false,cond_false])
  rw [Wb] at h;simp only [Vd,h,K13]
  generalize (List.all _ _ : Bool)=b
  rcases Bool.eq_false_or_eq_true b with e|e <;> simp [e]
theorem Zlw (x : GProc) : Ud x=some (k4 x):=by
  have h0 : rdV x.Regs 0=some x.Regs[0]:=by simp [rdV]
  simp only [Ud,h0,Zcv,Option.bind_some,k4]
  by_cases e : x.Regs[0]=0
  · rcases Bool.eq_false_or_eq_true (bt x.State 0 3) with e1 | e1 <;> rcases Bool.eq_false_or_eq_true (bt x.Prio 0 255) with e2 | e2 <;> rcases Bool.eq_false_or_eq_true (bt x.Wait 0 4) with e3 | e3 <;> simp [e,e1,e2,e3]
  · simp [e]
theorem Zmw (p : GPlan) (s : GState) (x : GProc) : Kz ⟨p,s⟩ x=some (k6 p x):=by
  simp only [Kz,Hw,Option.bind_some,k6]
  by_cases e2 : x.Wait=2
  · simp [e2]
  · by_cases e3 : x.Wait=3
    · simp [e3]
    · by_cases e4 : x.Wait=4
      · rcases Bool.eq_false_or_eq_true (wn x.Obj p.Ports.length) with e | e
        · obtain⟨y,hy⟩:=Zg1 e;have hk : pkAt p x.Obj=y.Kind:=by unfold pkAt;rw [hy]
          by_cases e5 : y.Kind=3 <;> simp [e4,e,hy,hk,e5]
        · simp [e4,e]
      · simp [e2,e3,e4]
theorem Zny (p : GPlan) (s : GState) (x : GProc) : Ki x s p=some (k14 p s x):=by
  have hm : (if p.Events < (s.Up.length : Int) then p.Events else (s.Up.length : Int))=mn s.Up.length p.Events:=rfl;simp only [Ki,Hw,Option.bind_some,k14,hm]
  by_cases e : x.Wait=2
  · rcases Bool.eq_false_or_eq_true (wn x.Obj (mn s.Up.length p.Events)) with e1 | e1
    · obtain⟨y,hy⟩:=Zg1 (Zmt e1 (Zmu _ _).1);simp [e,e1,hy,upAt]
    · simp [e,e1]
  · simp [e]
theorem Znz (p : GPlan) (s : GState) (x : GProc) : Kj x s p=some (k15 p s x):=by
  have hm : (if (p.Sems.length : Int) < (s.Sems.length : Int) then (p.Sems.length : Int) else (s.Sems.length : Int))=mn s.Sems.length p.Sems.length:=rfl;simp only [Kj,Hw,Option.bind_some,k15,hm]
  by_cases e : x.Wait=3
  · rcases Bool.eq_false_or_eq_true (wn x.Obj (mn s.Sems.length p.Sems.length)) with e1 | e1
    · obtain⟨y,hy⟩:=Zg1 (Zmt e1 (Zmu _ _).1);simp [e,e1,hy,smAt]
    · simp [e,e1]
  · simp [e]
theorem Zmx (p : GPlan) (s : GState) (x : GProc) : Ya ⟨p,s⟩ x=some (k16 p s x):=by
  have hm : (if (s.Ports.length : Int) < (p.Ports.length : Int) then (s.Ports.length : Int) else (p.Ports.length : Int))=mn p.Ports.length s.Ports.length:=rfl;simp only [Ya,Vk,Vj,Hw,Option.bind_some,k16,hm]
  by_cases e : x.Wait=4
  · rcases Bool.eq_false_or_eq_true (wn x.Obj (mn p.Ports.length s.Ports.length)) with e1 | e1
    · obtain⟨y,hy⟩:=Zg1 (Zmt e1 (Zmu _ _).1);obtain⟨z,hz⟩:=Zg1 (Zmt e1 (Zmu _ _).2)
      by_cases e3 : y.Kind=3
      · simp [e,e1,hy,hz,k16i,e3]
      · by_cases e4 : y.Kind=4 <;> simp [e,e1,hy,hz,k16i,e3,e4]
    · simp [e,e1]
  · simp [e]
theorem Zn0 (q : GPortPlan) (r : GPort) : Kg q r=some (k11 (q,r)):=by
  simp only [Kg,Zjj r.Msgs (fun x0=>Kt x0 q) (fun m=>decide (q.Size < (m.size : Int))) (fun _=>rfl),Option.bind_some,k11]
  by_cases e : (r.Msgs.length : Int) ≤ q.Depth <;> simp [e]
theorem Zn1 (q : GPortPlan) (r : GPort) : Kh q r=some (k12 (q,r)):=by
  simp only [Kh,Zcv,Option.bind_some,k12]
  rcases Bool.eq_false_or_eq_true (bt r.Age 0 255) with e|e
  · by_cases e1 : r.Age=0
    · have e' : bt 0 0 255=true:=rfl;simp [e',e1]
    · by_cases e2 : q.Kind=1 <;> simp [e,e1,e2]
  · simp [e]
theorem Zn2 (q : GPortPlan) (r : GPort) : Kk q r=some (k17 (q,r)):=by
  simp only [Kk,Zco,Option.bind_some,k17]
  by_cases e2 : q.Kind=2
  · simp [e2]
  · by_cases e4 : q.Kind=4 <;> simp [e2,e4]
theorem Vl {α : Type} {l : List α} {i : Nat} {x : α} (h : l[i]? = some x) : l.take (i + 1)=l.take i ++ [x]:=by rw [List.take_add_one,h];rfl
theorem Zn3 (p : GPlan) (s : GState) : Vn ⟨p,s⟩=some (K7 s):=by
  have h1:=Zjh (L:=Jj ⟨p,s⟩) (l:=s.Ready) (fun i=>s.Ready.take i) (z:=s.Ready) (q7 s) (fun i x hi hx=>by
    simp only [Jj,Vf,hi,hx,decide_true,cond_true,Option.bind_some,Hw,q7]
    rcases Bool.eq_false_or_eq_true (wn x s.Procs.length) with e|e
    · obtain⟨y,hy⟩:=Zg1 e;have hk : Zp6 s x=y.State:=by unfold Zp6;rw [hy]
      by_cases e1 : x ∈ s.Ready.take i
      · simp [e,e1]
      · by_cases e2 : y.State=1 <;> simp [e,e1,e2,hy,hk,Zik e1,Vl hx]
    · simp [e]) (by simp [Jj])
  have h2:=Vv (L:=Ji ⟨p,s⟩ s.Ready) (l:=s.Procs) (z:=()) (q7b s) (fun i x hi hx=>by
    simp only [Ji,Vg,hi,hx,decide_true,cond_true,Option.bind_some,q7b]
    by_cases e1 : x.State=1
    · by_cases e2 : ((i : Nat) : Int) ∈ s.Ready <;> simp [e1,e2]
    · simp [e1]) (by simp [Ji])
  rw [List.take_zero] at h1;simp only [Vn,h1,Option.bind_some,K7]
  rcases Bool.eq_false_or_eq_true (Zg0 (q7 s) 0 s.Ready) with e|e
  · simp only [e,if_true,h2,Option.bind_some,Bool.true_and]
    rcases Bool.eq_false_or_eq_true (Zg0 (q7b s) 0 s.Procs) with e3|e3 <;> simp [e3]
  · simp [e]
theorem Zpr (p : GPlan) (s : GState) (hok : Zt4 s) : Wh ⟨p,s⟩=some (K8 s):=by
  have h1:=Zjh (L:=Jv ⟨p,s⟩) (l:=s.Timers) (fun i=>(s.Timers.map GTimer.Proc).take i) (z:=()) (q8 s) (fun i x hi hx=>by
    have hxm : (s.Timers.map GTimer.Proc)[i]? = some x.Proc:=by rw [List.getElem?_map,hx];rfl
    simp only [Jv,Vx,Vy,hi,hx,decide_true,cond_true,Option.bind_some,Hw,Zcv,q8]
    rcases Bool.eq_false_or_eq_true (wn x.Proc s.Procs.length) with e|e
    · by_cases e1 : x.Proc ∈ (s.Timers.map GTimer.Proc).take i
      · simp [e,e1]
      · rcases Bool.eq_false_or_eq_true (bt x.Due 0 1010000) with e2 | e2
        · cases i with
          | zero=>simp [e,e2,Znx,Zk9,Vl hxm]
          | succ j=>
            have hj : j < s.Timers.length:=by omega
            have hw : IntKind.i64.wrap (((j + 1 : Nat) : Int) - 1)=(j : Int):=by have:=hok.1;rw [Vb ⟨by omega,by omega⟩];omega
            obtain⟨y,hy⟩ : ∃ y,s.Timers[j]? = some y:=⟨_,List.getElem?_eq_getElem hj⟩;have hr : rdI s.Timers (j : Int)=some y:=by simp [rdI,hy]
            have hpos : 0 < j + 1:=by omega
            rcases Bool.eq_false_or_eq_true (decide (x.Due < y.Due) || (decide (y.Due=x.Due) && decide (x.Proc ≤ y.Proc))) with e3|e3
            · simp only [e,e1,e2,e3,hw,hr,hy,hpos,Znx,decide_true,decide_false,cond_true,cond_false,Option.bind_some,Bool.not_true,Bool.not_false,Bool.and_true,Bool.and_false,Bool.false_eq_true,if_false]
            · simp only [e,e1,e2,e3,hw,hr,hy,hpos,Znx,decide_true,decide_false,cond_true,cond_false,Option.bind_some,Bool.not_true,Bool.not_false,Bool.and_true,if_true,Zik e1,Vl hxm]
        · simp [e,e1,e2]
    · simp [e]) (by simp [Jv])
  rw [List.take_zero] at h1;simp only [Wh,h1,Option.bind_some,K8]
  rcases Bool.eq_false_or_eq_true (Zg0 (q8 s) 0 s.Timers) with e|e <;> simp [e]
theorem Zs8 {k x : Int} {l : List Int} : x ∈ Zk9 l k ↔ x ∈ l ∨ x=k:=by
  by_cases h : k ∈ l
  · rw [Zq1 h];constructor
    · exact .inl
    · rintro (h' | rfl)
      · exact h'
      · exact h
  · rw [Zik h];simp
theorem Zmy {x : Int} : ∀ (l z : List Int),x ∈ l.foldl Zk9 z ↔ x ∈ z ∨ x ∈ l
  | [],z=>by simp
  | y :: r,z=>by rw [List.foldl_cons,Zmy r,Zs8];simp [or_assoc]
theorem Zn4 (p : GPlan) (s : GState) : Vo ⟨p,s⟩=some (K9 s):=by
  have h1:=Zjh (L:=Jl ⟨p,s⟩) (l:=s.Timers) (fun i=>((s.Timers.map GTimer.Proc).take i).foldl Zk9 []) (z:=(s.Timers.map GTimer.Proc).foldl Zk9 []) (q9 s) (fun i x hi hx=>by
    have hxm : (s.Timers.map GTimer.Proc)[i]? = some x.Proc:=by rw [List.getElem?_map,hx];rfl
    simp only [Jl,Vh,hi,hx,decide_true,cond_true,Option.bind_some,Hw,q9,Vl hxm,List.foldl_append,List.foldl_cons,List.foldl_nil]
    rcases Bool.eq_false_or_eq_true (wn x.Proc s.Procs.length) with e|e
    · obtain⟨y,hy⟩:=Zg1 e;have hk : Zp6 s x.Proc=y.State:=by unfold Zp6;rw [hy]
      by_cases e2 : y.State=2 <;> simp [e,e2,hy,hk]
    · simp [e]) (by
    have : (s.Timers.map GTimer.Proc).take s.Timers.length=s.Timers.map GTimer.Proc:=List.take_of_length_le (by simp);simp [Jl,this])
  have h2:=Vv (L:=Jk ⟨p,s⟩ ((s.Timers.map GTimer.Proc).foldl Zk9 [])) (l:=s.Procs) (z:=()) (q9b s) (fun i x hi hx=>by
    have hm : (((i : Nat) : Int) ∈ (s.Timers.map GTimer.Proc).foldl Zk9 []) ↔ ((i : Nat) : Int) ∈ s.Timers.map GTimer.Proc:=by rw [Zmy];simp
    simp only [Jk,Vi,hi,hx,decide_true,cond_true,Option.bind_some,q9b,hm]
    by_cases e1 : x.Wait=1
    · by_cases e2 : ((i : Nat) : Int) ∈ s.Timers.map GTimer.Proc
      · simp only [e1,e2,decide_true,cond_true,cond_false,Bool.not_true,Option.bind_some,Bool.or_true,if_true]
      · simp only [e1,e2,decide_true,decide_false,cond_true,cond_false,Bool.not_true,Bool.not_false,Option.bind_some,Bool.or_false,Bool.false_eq_true,if_false]
    · simp [e1]) (by simp [Jk])
  rw [List.take_zero,List.foldl_nil] at h1;simp only [Vo,h1,Option.bind_some,K9]
  rcases Bool.eq_false_or_eq_true (Zg0 (q9 s) 0 s.Timers) with e|e
  · simp only [e,if_true,h2,Option.bind_some,Bool.true_and]
    rcases Bool.eq_false_or_eq_true (Zg0 (q9b s) 0 s.Procs) with e3|e3 <;> simp [e3]
  · simp [e]
theorem Zrs {α : Type} (b : α → Bool) : ∀ l : List α,(!(l.any fun x=>!(b x)))=l.all b
  | []=>rfl
  | x :: r=>by rw [List.any_cons,List.all_cons,← Zrs b r];cases b x <;> simp
def Zjk (p : GPlan) (s : GState) : Vector Bool 17:=#v[K1 p s,K2 s,K3 p s,K4 s,K5 s,K6 p s,K7 s,K8 s,K9 s,K10 s,K11 p s,K12 p s,K13 p s,K14 p s,K15 p s,K16 p s,K17 p s]
theorem Zn5 (p : GPlan) (s : GState) (hok : Zt4 s) : Vp ⟨p,s⟩=some (Zjk p s):=by
  have c10:=Zms s.Sems (fun x0=>Yu x0) (fun n=>!(bt n 0 255)) (fun _=>rfl);have e10:=Zrs (fun n=>bt n 0 255) s.Sems;simp only [Vp,Wa,Option.bind_some,Zcv,Zbe ⟨p,s⟩ Zlw,Zbe ⟨p,s⟩ (f:=fun x0=>Yt x0) (b:=k5) (fun _=>rfl),Zbe ⟨p,s⟩ (Zmw p s),Zn3,Zpr p s hok,Zn4,c10,
    Zg2 ⟨p,s⟩ hok Zn0,Zg2 ⟨p,s⟩ hok Zn1,Zmv ⟨p,s⟩ hok,Zbe ⟨p,s⟩ (Zny p s),Zbe ⟨p,s⟩ (Znz p s),Zbe ⟨p,s⟩ (Zmx p s),Zg2 ⟨p,s⟩ hok Zn2,e10]
  have e2 : (bif bt s.Frame 0 2147483647 then some (bt s.Epoch 0 2147483647) else some false : Option Bool)=some (K2 s):=by
    unfold K2;rcases Bool.eq_false_or_eq_true (bt s.Frame 0 2147483647) with e | e <;> simp [e]
  have ea : ∀ a b : Bool,(bif a then some b else some false : Option Bool)=some (a && b):=fun a b=>by cases a <;> rfl
  simp only [ea,Option.bind_some];rfl
def brk : Nat → List Bool → List Int
  | _,[]=>[]
  | k,b :: r=>(if b=true then [] else [((k + 1 : Nat) : Int)]) ++ brk (k + 1) r
theorem Zlx (b : Bool) : ∀ (l : List Bool) (k : Nat),brk k (l ++ [b])=brk k l ++ (if b=true then [] else [((k + l.length + 1 : Nat) : Int)])
  | [],k=>by simp [brk]
  | x :: r,k=>by
    have ih:=Zlx b r (k + 1);rw [List.cons_append,brk,ih,brk,List.append_assoc,List.length_cons,show k + 1 + r.length + 1=k + (r.length + 1) + 1 by omega]
theorem Zn6 : ∀ (l : List Bool) (k : Nat),(brk k l).length ≤ l.length
  | [],_=>Nat.le_refl _
  | x :: r,k=>by
    have:=Zn6 r (k + 1);rw [brk,List.length_append,List.length_cons];split <;> simp <;> omega
def Gn (p : GPlan) (s : GState) : List Int:=if Zdr p ≠ .nil then [0] else brk 0 (Zjk p s).toList
theorem Zmz (p : GPlan) (s : GState) (hok : Zt4 s) : Gu p s=some (Gn p s):=by
  unfold Gn
  by_cases h : Zdr p=.nil
  rotate_left
  · rw [if_pos h];simp only [Gu,Zku,h,decide_false,Bool.not_false,cond_true,Option.bind_some]
  rw [if_neg (by simpa using h)]
  generalize hv : Zjk p s=v
  have h17 : v.toList.length=17:=by simp
  have key : ∀ m k,k + m=17 → Kp (Yl v) (brk 0 (v.toList.take k),k)=some (brk 0 v.toList):=by
    intro m
    induction m with
    | zero=>
      intro k hk;obtain rfl : k=17:=by omega
      rw [List.take_of_length_le (by omega)];exact Yz (by simp [Yl])
    | succ m ih=>
      intro k hk;have hlt : k < 17:=by omega
      have hlt' : k < v.toList.length:=by omega
      obtain⟨b,hb⟩ : ∃ b,v.toList[k]? = some b:=⟨_,List.getElem?_eq_getElem hlt'⟩;have hrd : rdV v (k : Int)=some b:=by
        rw [Zqz];simpa using hb
      have hl:=Zn6 (v.toList.take k) 0;rw [List.length_take] at hl;have hc : ((brk 0 (v.toList.take k)).length + [((k + 1 : Nat) : Int)].length) * 8 ≤ 140737488355328:=by
        simp only [List.length_cons,List.length_nil];omega
      have hs : Yl v (brk 0 (v.toList.take k),k)=some (.inl (brk 0 (v.toList.take (k + 1)),k + 1)):=by
        rw [Vl hb,Zlx,List.length_take,Nat.min_eq_left (by omega),Nat.zero_add];simp only [Yl,Hx,hlt,hrd,decide_true,cond_true,Option.bind_some,chk,hc,if_true]
        rcases Bool.eq_false_or_eq_true b with e|e <;> simp [e]
      rw [Vw hs];exact ih (k + 1) (by omega)
  have h0:=key 17 0 rfl;rw [List.take_zero] at h0;simp only [Gu,Zku,h,decide_true,Bool.not_true,cond_false,Option.bind_some,Zn5 p s hok,hv];exact (congrArg (fun o=>Option.bind o fun l=>some l) h0)
def Zhh (p : GPlan) (s : GState) (last : Int) : ErrM:=match Gn p s with
  | []=>.nil
  | x :: _=>if last < x then .nil else if x=0 then .v Zc5 else .pl x Uy
theorem Zps (p : GPlan) (s : GState) (hok : Zt4 s) (last : Int) : Zbr p s last=some (Zhh p s last):=by
  simp only [Zbr,Zan,Zmz p s hok,Option.bind_some,Zhh];cases h : Gn p s with
  | nil=>simp
  | cons x r=>
    by_cases e : last < x
    · simp [e]
    · by_cases e2 : x=0
      · subst e2;simp [e]
      · simp [e,e2]
theorem Zhv (p : GPlan) (s : GState) (hok : Zt4 s) : Zac p s=some (Zhh p s 17):=by simp only [Zac,Zps p s hok,Option.bind_some]
theorem cState : (ErrM.v Uy).code=9:=by decide
theorem Zrt : ∀ (l : List Bool) (k : Nat) (x : Int),x ∈ brk k l → (k : Int) + 1 ≤ x ∧ x ≤ k + l.length
  | [],k,x,h=>by cases h
  | b :: r,k,x,h=>by
    rw [brk,List.mem_append] at h
    rcases h with h|h
    · split at h
      · cases h
      · rw [List.mem_singleton] at h;subst h;simp;omega
    · have:=Zrt r (k + 1) x h;simp only [List.length_cons];omega
section
variable {σ ρ α : Type}
theorem Zep {L : σ → Option (σ ⊕ ρ)} (I : σ → Prop) (Q : ρ → Prop) (μ : σ → Nat)
    (h : ∀ s,I s → (∃ s',L s=some (.inl s') ∧ I s' ∧ μ s' < μ s) ∨ (∃ r,L s=some (.inr r) ∧ Q r)) {s : σ} (h0 : I s) : ∃ r,Kp L s=some r ∧ Q r:=by
  have key : ∀ n s,μ s < n → I s → ∃ r,Kp L s=some r ∧ Q r:=by
    intro n
    induction n with
    | zero=>intro s hs;omega
    | succ n ih=>
      intro s hs hI
      rcases h s hI with ⟨s',h1,h2,h3⟩ | ⟨r,h1,h2⟩
      · obtain⟨r,h4,h5⟩:=ih s' (by omega) h2;exact⟨r,(Vw h1).trans h4,h5⟩
      · exact⟨r,Yz h1,h2⟩
  exact key _ s (Nat.lt_succ_self _) h0
theorem Zhi {f : Nat → α → Option ErrM} (hf : ∀ i x,f i x ≠ some .nil) : ∀ {l : List α} {k : Nat},orN (Ja f k l)=.nil → ∀ i x,l[i]? = some x → f (k + i) x=none
  | [],_,_,i,x,hx=>by simp at hx
  | y :: r,k,h,i,x,hx=>by
    cases hy : f k y with
    | some e=>
      simp only [Ja,hy,orN,Option.getD_some] at h;subst h;exact absurd hy (hf k y)
    | none=>
      simp only [Ja,hy] at h;cases i with
      | zero=>
        have : y=x:=by simpa using hx
        subst this;exact hy
      | succ j=>
        have:=Zhi hf h j x (by simpa using hx)
        rwa [show k + 1 + j=k + (j + 1) by omega] at this
end
theorem Zin {a b : ErrM} (h : orE a b=.nil) : a=.nil ∧ b=.nil:=by
  unfold orE at h
  by_cases c : a=.nil
  · rw [if_pos c] at h;exact⟨c,h⟩
  · rw [if_neg c] at h;exact absurd h c
structure OkP (p : GPlan) : Prop where
  id0 : 0 ≤ p.Id
  id1 : p.Id ≤ 2147483647
  pg0 : 1 ≤ p.Pages.length
  pg1 : p.Pages.length ≤ 32
  pr0 : 1 ≤ p.Procs.length
  pr1 : p.Procs.length ≤ 8
  po1 : p.Ports.length ≤ 8
  ev0 : 0 ≤ p.Events
  ev1 : p.Events ≤ 8
  se1 : p.Sems.length ≤ 8
  prio : ∀ x ∈ p.Procs,0 ≤ x.Prio ∧ x.Prio ≤ 255
  dep : ∀ x ∈ p.Ports,1 ≤ x.Depth
  sem : ∀ n ∈ p.Sems,0 ≤ n ∧ n ≤ 255
theorem okP_of {p : GPlan} (h : Zdr p=.nil) : OkP p:=by
  unfold Zdr at h
  by_cases c0 : p.Id < 0 ∨ 2147483647 < p.Id
  · rw [if_pos c0] at h;cases h
  rw [if_neg c0] at h;obtain⟨h1,h2⟩:=Zin h;obtain⟨h2,h3⟩:=Zin h2;unfold Zpn at h3;obtain⟨h3,h4⟩:=Zin h3;obtain⟨h4,_⟩:=Zin h4;unfold Zen at h1
  by_cases c1 : p.Pages.length < 1 ∨ 32 < p.Pages.length
  · rw [if_pos c1] at h1;cases h1
  unfold Zeo at h2
  by_cases c2 : p.Procs.length < 1 ∨ 8 < p.Procs.length
  · rw [if_pos c2] at h2;cases h2
  rw [if_neg c2] at h2;unfold Ze9 at h3
  by_cases c3 : 8 < p.Ports.length
  · rw [if_pos c3] at h3;cases h3
  rw [if_neg c3] at h3;unfold Zch at h4
  by_cases c4 : p.Events < 0 ∨ 8 < p.Events
  · rw [if_pos c4] at h4;cases h4
  rw [if_neg c4] at h4
  by_cases c5 : 8 < p.Sems.length
  · rw [if_pos c5] at h4;cases h4
  rw [if_neg c5] at h4;refine⟨by omega,by omega,by omega,by omega,by omega,by omega,by omega,by omega,by omega,by omega,fun x hx=>?_,fun x hx=>?_,fun x hx=>?_⟩
  · obtain⟨i,hi⟩:=List.mem_iff_getElem?.1 hx;have:=Zhi (f:=Zhf p.Pages.length) (fun i x=>by unfold Zhf;split <;> intro h <;> cases h) h2 i x hi;unfold Zhf at this;split at this
    · cases this
    · omega
  · obtain⟨i,hi⟩:=List.mem_iff_getElem?.1 hx;have:=Zhi (f:=Zba) (fun i x=>by unfold Zba;split <;> intro h <;> cases h) h3 i x hi;unfold Zba at this
    rcases Zdq x with e | ⟨g,e⟩
    · unfold Zhd at e
      by_cases d0 : x.Kind < 1 ∨ 4 < x.Kind
      · rw [if_pos d0] at e;cases e
      rw [if_neg d0] at e
      by_cases d1 : x.Size < 1 ∨ 32 < x.Size
      · rw [if_pos d1] at e;cases e
      rw [if_neg d1] at e
      by_cases d2 : x.Depth < 1
      · rw [if_pos (.inl d2)] at e;cases e
      · omega
    · rw [e] at this;cases this
  · obtain⟨i,hi⟩:=List.mem_iff_getElem?.1 hx;have:=Zhi (f:=Zl2) (fun i x=>by unfold Zl2;split <;> intro h <;> cases h) h4 i x hi;unfold Zl2 at this;split at this
    · cases this
    · omega
def Zn7 (x : GProcPlan) : GProc:=⟨Vector.replicate 16 0,IntKind.u32.wrap x.Entry,if x.Auto=true then 1 else 0,x.Prio,0,0⟩
def Zci : Nat → List GProcPlan → List Int
  | _,[]=>[]
  | k,x :: r=>(if x.Auto=true then [((k : Nat) : Int)] else []) ++ Zci (k + 1) r
theorem Zm0 (x : GProcPlan) : ∀ (l : List GProcPlan) (k : Nat),Zci k (l ++ [x])=Zci k l ++ (if x.Auto=true then [((k + l.length : Nat) : Int)] else [])
  | [],k=>by simp [Zci]
  | y :: r,k=>by
    have ih:=Zm0 x r (k + 1);rw [List.cons_append,Zci,ih,Zci,List.append_assoc,List.length_cons,show k + 1 + r.length=k + (r.length + 1) by omega]
theorem Zov : ∀ (l : List GProcPlan) (k : Nat),(Zci k l).length ≤ l.length
  | [],_=>Nat.le_refl _
  | y :: r,k=>by
    have:=Zov r (k + 1);rw [Zci,List.length_append,List.length_cons];split <;> simp <;> omega
def Zf2 (x : GPagePlan) : GPage:=⟨x.Rights,false,cpyV (Vector.replicate 64 0) x.Init⟩
def Zf3 (p : GPlan) : GState:=⟨p.Id,0,0,p.Procs.map Zn7,Zci 0 p.Procs,[],List.replicate p.Events.toNat false,p.Sems,List.replicate p.Ports.length ⟨[],0⟩,p.Pages.map Zf2⟩
structure OkC (s : GState) : Prop where
  a : s.Procs.length ≤ 40
  b : s.Ready.length ≤ 40
  c : s.Timers.length ≤ 40
  d : s.Up.length ≤ 40
  e : s.Sems.length ≤ 40
  f : s.Pages.length ≤ 40
  g : s.Ports.length ≤ 40
  h : ∀ x ∈ s.Ports,x.Msgs.length ≤ 40
def fresh (x : GProc) : Prop:=x.Regs[0]=0 ∧ (x.State=0 ∨ x.State=1) ∧ 0 ≤ x.Prio ∧ x.Prio ≤ 255 ∧ x.Wait=0 ∧ x.Obj=0
structure Booted (p : GPlan) (s : GState) : Prop where
  fr : s.Frame=0
  ep : s.Epoch=0
  pr : ∀ x ∈ s.Procs,fresh x
  q1 : ∀ i n,s.Ready[i]? = some n → q7 s i n=true
  q2 : ∀ i x,s.Procs[i]? = some x → x.State=1 → ((i : Nat) : Int) ∈ s.Ready
  ti : s.Timers=[]
  se : s.Sems=p.Sems
  po : ∀ x ∈ s.Ports,x=⟨[],0⟩
def Zow (s : GState) : Prop:=Zt4 s ∧ s.Procs.length ≤ 140737488355328 ∧ s.Ready.length ≤ 140737488355328
theorem Zru (s : GState) : Zdc s=some (K4 s):=by
  have h:=Vv (L:=Hi s) (l:=s.Procs) (z:=()) (fun _ x=>k4 x) (fun i x hi hx=>by
    have h0 : rdV x.Regs 0=some x.Regs[0]:=by simp [rdV]
    have hb : (((((((!decide (x.Regs[0]=0)) || decide (x.State < 0)) || decide (3 < x.State)) || decide (x.Prio < 0)) || decide (255 < x.Prio)) || decide (x.Wait < 0)) || decide (4 < x.Wait)) = !(k4 x):=by
      unfold k4 bt
      generalize x.Regs[0]=r
      by_cases e0 : r=0 <;> by_cases e1 : 0 ≤ x.State <;> by_cases e2 : x.State ≤ 3 <;> by_cases e3 : 0 ≤ x.Prio <;> by_cases e4 : x.Prio ≤ 255 <;> by_cases e5 : 0 ≤ x.Wait <;> by_cases e6 : x.Wait ≤ 4 <;> simp [e0,e1,e2,e3,e4,e5,e6,Int.not_le.1,Int.not_lt.2] <;> omega
    simp only [Hi,hi,hx,decide_true,cond_true,Option.bind_some,h0,hb]
    rcases Bool.eq_false_or_eq_true (k4 x) with e|e <;> simp [e]) (by simp [Hi])
  rw [Wb] at h;simp only [Zdc,h,K4]
  rcases Bool.eq_false_or_eq_true (s.Procs.all k4) with e|e <;> simp [e]
theorem Zrv (s : GState) : Zdd s=some (K5 s):=by
  have h:=Vv (L:=Hj s) (l:=s.Procs) (z:=()) (fun _ x=>k5 x) (fun i x hi hx=>by
    have hb : (!((!decide (x.Wait=0)) == decide (x.State=2))) = !(k5 x):=rfl;simp only [Hj,hi,hx,decide_true,cond_true,Option.bind_some,hb]
    rcases Bool.eq_false_or_eq_true (k5 x) with e|e <;> simp [e]) (by simp [Hj])
  rw [Wb] at h;simp only [Zdd,h,K5]
  rcases Bool.eq_false_or_eq_true (s.Procs.all k5) with e|e <;> simp [e]
theorem Zpt (p : GPlan) (x : GProc) : Zbu p x=some (k6 p x):=by
  simp only [Zbu,Zcs,k6]
  by_cases e2 : x.Wait=2
  · simp [e2,wn]
  · by_cases e3 : x.Wait=3
    · simp [e3,wn]
    · by_cases e4 : x.Wait=4
      · by_cases e5 : 0 ≤ x.Obj
        · by_cases e6 : x.Obj < (p.Ports.length : Int)
          · obtain⟨y,hy⟩:=Zg1 (l:=p.Ports) (n:=x.Obj) (by simp [wn,e5,e6]);have hk : pkAt p x.Obj=y.Kind:=by unfold pkAt;rw [hy]
            by_cases e7 : y.Kind=3 <;> simp [e4,e5,e6,wn,hy,hk,e7]
          · simp [e4,e5,e6,wn]
        · simp [e4,e5,wn]
      · simp [e2,e3,e4]
theorem Zrw (p : GPlan) (s : GState) : Zde p s=some (K6 p s):=by
  have h:=Vv (L:=Hk p s) (l:=s.Procs) (z:=()) (fun _ x=>k6 p x) (fun i x hi hx=>by
    simp only [Hk,hi,hx,decide_true,cond_true,Option.bind_some,Zpt]
    rcases Bool.eq_false_or_eq_true (k6 p x) with e|e <;> simp [e]) (by simp [Hk])
  rw [Wb] at h;simp only [Zde,h,K6]
  rcases Bool.eq_false_or_eq_true (s.Procs.all (k6 p)) with e|e <;> simp [e]
def Tx : Nat → List GProc → List Int
  | _,[]=>[]
  | k,x :: r=>(if x.State=1 then [((k : Nat) : Int)] else []) ++ Tx (k + 1) r
theorem Zb8 : ∀ {l : List GProc} {k : Nat} {n : Int},n ∈ Tx k l ↔ ∃ i x,l[i]? = some x ∧ x.State=1 ∧ n=((k + i : Nat) : Int)
  | [],k,n=>by simp [Tx]
  | y :: r,k,n=>by
    rw [Tx,List.mem_append,Zb8];constructor
    · rintro (h | ⟨i,x,h1,h2,h3⟩)
      · by_cases e : y.State=1
        · rw [if_pos e,List.mem_singleton] at h;exact⟨0,y,rfl,e,by simpa using h⟩
        · rw [if_neg e] at h;cases h
      · exact⟨i + 1,x,by simpa using h1,h2,by rw [h3];congr 1;omega⟩
    · rintro ⟨i,x,h1,h2,h3⟩
      cases i with
      | zero=>
        have : y=x:=by simpa using h1
        subst this;rw [if_pos h2];exact .inl (by simpa using h3)
      | succ j=>exact .inr ⟨j,x,by simpa using h1,h2,by rw [h3];congr 1;omega⟩
theorem Zgl : ∀ (l : List GProc) (k : Nat),(Tx k l).Nodup
  | [],k=>List.nodup_nil
  | y :: r,k=>by
    have ih:=Zgl r (k + 1);rw [Tx];split
    · rw [List.singleton_append,List.nodup_cons];refine⟨fun h=>?_,ih⟩;obtain⟨i,x,_,_,h3⟩:=Zb8.1 h;omega
    · exact ih
theorem Ze5 : ∀ {l1 l2 : List Int},l1.Nodup → (∀ x ∈ l1,x ∈ l2) → l1.length ≤ l2.length
  | [],_,_,_=>Nat.zero_le _
  | a :: t,l2,hn,hs=>by
    obtain⟨h1,h2⟩:=List.nodup_cons.1 hn;have ha:=hs a List.mem_cons_self;have:=Ze5 (l1:=t) (l2:=l2.erase a) h2 fun x hx=>(List.mem_erase_of_ne (fun e=>h1 (by rw [← e];exact hx))).2 (hs x (List.mem_cons_of_mem _ hx))
    rw [List.length_erase_of_mem ha] at this;have:=List.length_pos_of_mem ha;simp only [List.length_cons];omega
theorem Zia : ∀ {l1 l2 : List Int},l1.Nodup → (∀ x ∈ l1,x ∈ l2) → l2.length ≤ l1.length → ∀ x ∈ l2,x ∈ l1
  | [],l2,_,_,hl,x,hx=>by
    have : l2=[]:=List.length_eq_zero_iff.1 (by simpa using hl);subst this;cases hx
  | a :: t,l2,hn,hs,hl,x,hx=>by
    obtain⟨h1,h2⟩:=List.nodup_cons.1 hn;have ha:=hs a List.mem_cons_self
    by_cases e : x=a
    · rw [e];exact List.mem_cons_self
    · have hl' : (l2.erase a).length ≤ t.length:=by
        rw [List.length_erase_of_mem ha];simp only [List.length_cons] at hl;omega
      have:=Zia (l1:=t) (l2:=l2.erase a) h2 (fun y hy=>(List.mem_erase_of_ne (fun e=>h1 (by rw [← e];exact hy))).2 (hs y (List.mem_cons_of_mem _ hy))) hl' x ((List.mem_erase_of_ne e).2 hx);exact List.mem_cons_of_mem _ this
theorem Zpu {l : List Int} (h : ∀ i x,l[i]? = some x → x ∉ l.take i) : l.Nodup:=by
  rw [List.nodup_iff_pairwise_ne,List.pairwise_iff_getElem];intro i j hi hj hij e;have:=h j l[j] (List.getElem?_eq_getElem hj);apply this;rw [← e,List.mem_take_iff_getElem];exact⟨i,by omega,rfl⟩
theorem Zs9 (s : GState) (hok : Zow s) (i : Nat) (x : Int) (hi : i < s.Ready.length) : Kp (Vr s i x) 0=some (if decide (x ∈ s.Ready.take i)=true then .inr false else .inl ()):=by
  have hlt : (s.Ready.take i).length=i:=by rw [List.length_take];omega
  have h:=Zb7 (L:=Vr s i x) (l:=s.Ready.take i) (z:=()) (fun _ y=>!decide (y=x)) (fun j y hj hy=>by
    have hjl : j < i:=by omega
    rw [List.getElem?_take_of_lt hjl] at hy;have hr : rdI s.Ready (j : Int)=some y:=by simp [rdI,hy]
    have hw : IntKind.i64.wrap ((j : Int) + 1)=((j + 1 : Nat) : Int):=by have:=hok.2.2;rw [Vb ⟨by omega,by omega⟩];rfl
    have hc : (j : Int) < (i : Int):=by omega
    simp only [Vr,hc,hr,hw,decide_true,cond_true,Option.bind_some]
    by_cases e : y=x <;> simp [e]) (by rw [hlt];simp [Vr])
  rw [h,Wb]
  by_cases e : x ∈ s.Ready.take i
  · have : ((s.Ready.take i).all fun y=>!decide (y=x))=false:=by
      rw [List.all_eq_false];exact⟨x,e,by simp⟩
    rw [this];simp [e]
  · have : ((s.Ready.take i).all fun y=>!decide (y=x))=true:=by
      rw [List.all_eq_true];intro y hy;simp;rintro rfl;exact e hy
    rw [this];simp [e]
theorem Zpv (s : GState) (hok : Zow s) : Kp (Vs s) (0,0)=some (((Tx 0 s.Procs).length : Nat) : Int):=by
  have h:=Zhc (L:=Vs s) (l:=s.Procs) (g:=fun z x=>if x.State=1 then z + 1 else z) (I:=fun z i=>0 ≤ z ∧ z ≤ i) (z:=(0 : Int)) ⟨Int.le_refl _,Int.le_refl _⟩ (fun i x z hi hx hI=>⟨by
    have hw : IntKind.i64.wrap (z + 1)=z + 1:=by have:=hok.2.1;have:=hI.1;have:=hI.2;exact Vb ⟨by omega,by omega⟩
    simp only [Vs,Zax,hi,hx,decide_true,cond_true,Option.bind_some,hw]
    by_cases e : x.State=1 <;> simp [e],by
    have:=hI.1;have:=hI.2
    by_cases e : x.State=1
    · simp only [e,if_true];omega
    · simp only [e,if_false];omega⟩) (fun z _=>by simp [Vs])
  rw [h.1]
  congr 1
  have key : ∀ (l : List GProc) (k : Nat) (z : Int),l.foldl (fun z x=>if x.State=1 then z + 1 else z) z=z + ((Tx k l).length : Nat):=by
    intro l
    induction l with
    | nil=>intro k z;simp [Tx]
    | cons x r ih=>
      intro k z;rw [List.foldl_cons,ih (k + 1),Tx,List.length_append]
      by_cases e : x.State=1 <;> simp [e] <;> omega
  rw [key s.Procs 0 0];omega
theorem Zrx (s : GState) (hok : Zow s) : Zdf s=some (K7 s):=by
  have h1:=Vv (L:=Ul s) (l:=s.Ready) (z:=()) (q7 s) (fun i x hi hx=>by
    have hd:=Zs9 s hok i x hi;simp only [Ul,Zaw,hi,hx,decide_true,cond_true,Option.bind_some,hd,q7]
    rcases Bool.eq_false_or_eq_true (wn x s.Procs.length) with e|e
    · obtain⟨y,hy⟩:=Zg1 e;have hk : Zp6 s x=y.State:=by unfold Zp6;rw [hy]
      have e':=e;simp only [wn,Bool.and_eq_true,decide_eq_true_eq] at e';have n1 : ¬ x < 0:=by omega
      have n2 : ¬ ((s.Procs.length : Nat) : Int) ≤ x:=by omega
      by_cases e1 : x ∈ s.Ready.take i
      · by_cases e2 : y.State=1 <;> simp [e,e1,n1,n2,hy,hk,e2]
      · by_cases e2 : y.State=1 <;> simp [e,e1,n1,n2,hy,hk,e2]
    · by_cases n1 : x < 0
      · simp [n1,e]
      · by_cases n2 : ((s.Procs.length : Nat) : Int) ≤ x
        · simp [n1,n2,e]
        · exfalso;have : wn x s.Procs.length=true:=by simp only [wn,Bool.and_eq_true,decide_eq_true_eq];omega
          rw [this] at e;cases e) (by simp [Ul])
  simp only [Zdf,h1,Zpv s hok,Option.bind_some,K7]
  rcases Bool.eq_false_or_eq_true (Zg0 (q7 s) 0 s.Ready) with e|e
  rotate_left
  · simp [e]
  rw [e,if_pos rfl];simp only [Option.bind_some,Bool.true_and]
  congr 1
  have hq:=Zim.1 e;have hnd : s.Ready.Nodup:=Zpu fun i x hx=>by
    have:=hq i x hx;rw [Nat.zero_add] at this;simp only [q7,Bool.and_eq_true,Bool.not_eq_true',decide_eq_false_iff_not] at this;exact this.1.2
  have hsub : ∀ n ∈ s.Ready,n ∈ Tx 0 s.Procs:=fun n hn=>by
    obtain⟨i,hi⟩:=List.mem_iff_getElem?.1 hn;have:=hq i n hi;rw [Nat.zero_add] at this;simp only [q7,Bool.and_eq_true,decide_eq_true_eq] at this;obtain⟨y,hy⟩:=Zg1 this.1.1;have h0 : 0 ≤ n:=by
      have:=this.1.1;simp only [wn,Bool.and_eq_true,decide_eq_true_eq] at this;exact this.1
    have hk : Zp6 s n=y.State:=by unfold Zp6;rw [hy]
    refine Zb8.2 ⟨n.toNat,y,?_,by rw [← hk];exact this.2,by omega⟩;unfold rdI at hy;rwa [if_pos h0] at hy
  have hle:=Ze5 hnd hsub
  rcases Bool.eq_false_or_eq_true (Zg0 (q7b s) 0 s.Procs) with e2|e2
  · rw [e2];have hq2:=Zim.1 e2;have : ∀ n ∈ Tx 0 s.Procs,n ∈ s.Ready:=fun n hn=>by
      obtain⟨i,x,g1,g2,g3⟩:=Zb8.1 hn;have:=hq2 i x g1;simp only [q7b,Bool.or_eq_true,Bool.not_eq_true',decide_eq_false_iff_not,decide_eq_true_eq] at this
      rcases this with h|h
      · exact absurd g2 h
      · rw [g3];exact h
    have:=Ze5 (Zgl s.Procs 0) this;exact decide_eq_true (by omega)
  · rw [e2];refine decide_eq_false fun hc=>?_
    have hall:=Zia hnd hsub (by omega);have : Zg0 (q7b s) 0 s.Procs=true:=Zim.2 fun i x hx=>by
      simp only [q7b,Bool.or_eq_true,Bool.not_eq_true',decide_eq_false_iff_not,decide_eq_true_eq]
      by_cases g : x.State=1
      · exact .inr (hall _ (Zb8.2 ⟨i,x,hx,g,rfl⟩))
      · exact .inl g
    rw [this] at e2;cases e2
theorem Zry (s : GState) (hok : Zow s) (i : Nat) (t : GTimer) (hi : i < s.Timers.length) : Kp (Wr s i t) 0=some (if decide (t.Proc ∈ (s.Timers.map GTimer.Proc).take i)=true then .inr false else .inl ()):=by
  have hlt : (s.Timers.take i).length=i:=by rw [List.length_take];omega
  have h:=Zb7 (L:=Wr s i t) (l:=s.Timers.take i) (z:=()) (fun _ y=>!decide (y.Proc=t.Proc)) (fun j y hj hy=>by
    have hjl : j < i:=by omega
    rw [List.getElem?_take_of_lt hjl] at hy;have hr : rdI s.Timers (j : Int)=some y:=by simp [rdI,hy]
    have hw : IntKind.i64.wrap ((j : Int) + 1)=((j + 1 : Nat) : Int):=by have:=hok.1.1;rw [Vb ⟨by omega,by omega⟩];rfl
    have hc : (j : Int) < (i : Int):=by omega
    simp only [Wr,hc,hr,hw,decide_true,cond_true,Option.bind_some]
    by_cases e : y.Proc=t.Proc <;> simp [e]) (by rw [hlt];simp [Wr])
  rw [h,Wb,← List.map_take]
  by_cases e : t.Proc ∈ (s.Timers.take i).map GTimer.Proc
  · have : ((s.Timers.take i).all fun y=>!decide (y.Proc=t.Proc))=false:=by
      obtain⟨y,hy,hyt⟩:=List.mem_map.1 e;rw [List.all_eq_false];exact⟨y,hy,by simp [hyt]⟩
    rw [this];simp only [e,decide_true,if_true];rfl
  · have : ((s.Timers.take i).all fun y=>!decide (y.Proc=t.Proc))=true:=by
      rw [List.all_eq_true];intro y hy;simp;intro h;exact e (List.mem_map.2 ⟨y,hy,h⟩)
    rw [this];simp only [e,decide_false,if_true];rfl
theorem Zrz (s : GState) (hok : Zow s) : Zdg s=some (K8 s):=by
  have h1:=Vv (L:=Um s) (l:=s.Timers) (z:=()) (q8 s) (fun i x hi hx=>by
    have hd:=Zry s hok i x hi;have hb : (((decide (x.Proc < 0) || decide (((s.Procs.length : Nat) : Int) ≤ x.Proc)) || decide (x.Due < 0)) || decide (1010000 < x.Due)) = !(wn x.Proc s.Procs.length && bt x.Due 0 1010000):=by
      unfold wn bt
      by_cases e1 : 0 ≤ x.Proc <;> by_cases e2 : x.Proc < ((s.Procs.length : Nat) : Int) <;> by_cases e3 : 0 ≤ x.Due <;> by_cases e4 : x.Due ≤ 1010000 <;> simp [e1,e2,e3,e4] <;> omega
    simp only [Um,Zay,hi,hx,decide_true,cond_true,Option.bind_some,hb,hd,q8]
    rcases Bool.eq_false_or_eq_true (wn x.Proc s.Procs.length) with e|e
    · rcases Bool.eq_false_or_eq_true (bt x.Due 0 1010000) with e2 | e2
      · by_cases e1 : x.Proc ∈ (s.Timers.map GTimer.Proc).take i
        · simp [e,e1,e2]
        · cases i with
          | zero=>simp [e,e2,Znx]
          | succ j=>
            have hj : j < s.Timers.length:=by omega
            have hw : IntKind.i64.wrap (((j + 1 : Nat) : Int) - 1)=(j : Int):=by have:=hok.1.1;rw [Vb ⟨by omega,by omega⟩];omega
            obtain⟨y,hy⟩ : ∃ y,s.Timers[j]? = some y:=⟨_,List.getElem?_eq_getElem hj⟩;have hr : rdI s.Timers (j : Int)=some y:=by simp [rdI,hy]
            have hpos : 0 < j + 1:=by omega
            rcases Bool.eq_false_or_eq_true (decide (x.Due < y.Due) || (decide (y.Due=x.Due) && decide (x.Proc ≤ y.Proc))) with e3|e3
            · simp only [e,e1,e2,e3,hw,hr,hy,hpos,Znx,decide_true,decide_false,cond_true,cond_false,Option.bind_some,Bool.not_true,Bool.not_false,Bool.and_true,Bool.and_false,Bool.false_eq_true,if_false]
            · simp only [e,e1,e2,e3,hw,hr,hy,hpos,Znx,decide_true,decide_false,cond_true,cond_false,Option.bind_some,Bool.not_true,Bool.not_false,Bool.and_true,Bool.false_eq_true,if_true,if_false]
      · simp [e,e2]
    · simp [e]) (by simp [Um])
  simp only [Zdg,h1,Option.bind_some,K8]
  rcases Bool.eq_false_or_eq_true (Zg0 (q8 s) 0 s.Timers) with e|e <;> simp [e]
theorem Zta (s : GState) (i : Nat) : Kp (Vt s i) (false,0)=some (decide (((i : Nat) : Int) ∈ s.Timers.map GTimer.Proc)):=by
  have h:=Zhc (L:=Vt s i) (l:=s.Timers) (g:=fun (z : Bool) x=>if x.Proc=((i : Nat) : Int) then true else z) (I:=fun _ _=>True) (z:=false) trivial (fun j x z hj hx _=>⟨by
    simp only [Vt,Zaz,hj,hx,decide_true,cond_true,Option.bind_some]
    by_cases e : x.Proc=((i : Nat) : Int) <;> simp [e],trivial⟩) (fun z _=>by simp [Vt])
  rw [h.1]
  congr 1
  have key : ∀ (l : List GTimer) (z : Bool),l.foldl (fun (z : Bool) x=>if x.Proc=((i : Nat) : Int) then true else z) z=(z || decide (((i : Nat) : Int) ∈ l.map GTimer.Proc)):=by
    intro l
    induction l with
    | nil=>intro z;simp
    | cons x r ih=>
      intro z;rw [List.foldl_cons,ih]
      by_cases e : x.Proc=((i : Nat) : Int)
      · simp [e]
      · have e' : ¬ ((i : Nat) : Int)=x.Proc:=fun h=>e h.symm
        simp [e,e']
  rw [key];simp
theorem Zr0 (s : GState) : Zdh s=some (K9 s):=by
  have h1:=Vv (L:=Uo s) (l:=s.Timers) (z:=()) (q9 s) (fun i x hi hx=>by
    simp only [Uo,Zbk,hi,hx,decide_true,cond_true,Option.bind_some,q9]
    by_cases e1 : 0 ≤ x.Proc
    · by_cases e2 : x.Proc < ((s.Procs.length : Nat) : Int)
      · have e : wn x.Proc s.Procs.length=true:=by simp [wn,e1,e2]
        obtain⟨y,hy⟩:=Zg1 e;have hk : Zp6 s x.Proc=y.State:=by unfold Zp6;rw [hy]
        by_cases e3 : y.State=2 <;> simp [e,e1,e2,hy,hk,e3]
      · have e : wn x.Proc s.Procs.length=false:=by simp [wn,e2]
        simp [e,e1,e2]
    · have e : wn x.Proc s.Procs.length=false:=by simp [wn,e1]
      simp [e,e1]) (by simp [Uo])
  have h2:=Vv (L:=Un s) (l:=s.Procs) (z:=()) (q9b s) (fun i x hi hx=>by
    simp only [Un,Za0,hi,hx,decide_true,cond_true,Option.bind_some,Zta,q9b]
    by_cases e1 : x.Wait=1
    · by_cases e2 : ((i : Nat) : Int) ∈ s.Timers.map GTimer.Proc
      · simp only [e1,e2,decide_true,cond_true,cond_false,Bool.not_true,Option.bind_some,Bool.or_true,if_true]
      · simp only [e1,e2,decide_true,decide_false,cond_true,cond_false,Bool.not_true,Bool.not_false,Option.bind_some,Bool.or_false,Bool.false_eq_true,if_false]
    · simp [e1]) (by simp [Un])
  simp only [Zdh,h1,Option.bind_some,K9]
  rcases Bool.eq_false_or_eq_true (Zg0 (q9 s) 0 s.Timers) with e|e
  · simp only [e,if_true,h2,Option.bind_some,Bool.true_and]
    rcases Bool.eq_false_or_eq_true (Zg0 (q9b s) 0 s.Procs) with e3|e3 <;> simp [e3]
  · simp [e]
theorem Za8 (a b : Int) : Uq a b=some (if a < b then a else b):=by
  unfold Uq;by_cases h : a < b <;> simp [h]
theorem Zd0 {α β : Type} (l : List α) (r : List β) : (if (r.length : Int) < (l.length : Int) then (r.length : Int) else (l.length : Int))=((l.zip r).length : Int):=by
  rw [List.length_zip];split <;> omega
section
variable {p : GPlan} {s : GState} {i : Nat} {x : GPortPlan × GPort}
theorem Zr1 (hok : Zow s) (hi : i < (p.Ports.zip s.Ports).length) (hx : (p.Ports.zip s.Ports)[i]? = some x) :
    rdI p.Ports (i : Int)=some x.1 ∧ rdI s.Ports (i : Int)=some x.2 ∧ IntKind.i64.wrap ((i : Int) + 1)=((i + 1 : Nat) : Int) ∧ (i : Int) < ((p.Ports.zip s.Ports).length : Int):=by
  obtain⟨h1,h2⟩:=List.getElem?_zip_eq_some.1 hx;have hl : i < s.Ports.length:=(List.getElem?_eq_some_iff.1 h2).1;refine⟨by simp [rdI,h1],by simp [rdI,h2],?_,by omega⟩;have:=hok.1.2.1;rw [Vb ⟨by omega,by omega⟩];rfl
end
theorem Zpw (p : GPlan) (s : GState) (hok : Zow s) : Zbv p s=some (K11 p s):=by
  have h:=Zb7 (L:=Us p s) (l:=p.Ports.zip s.Ports) (z:=()) (fun _ x=>k11 x) (fun i x hi hx=>by
    obtain⟨g1,g2,g3,g4⟩:=Zr1 hok hi hx;have hin:=Vv (L:=Ur p s (i : Int)) (l:=x.2.Msgs) (z:=()) (fun _ m=>!decide (x.1.Size < (m.size : Int))) (fun j m hj hm=>by
      simp only [Ur,g1,g2,hj,hm,decide_true,cond_true,Option.bind_some]
      by_cases e : x.1.Size < (m.size : Int) <;> simp [e]) (by simp [Ur,g2])
    rw [Wb] at hin;simp only [Us,Za8,Zd0,g1,g2,g3,g4,hin,decide_true,cond_true,Option.bind_some,k11];have ha : (x.2.Msgs.all fun m=>!decide (x.1.Size < (m.size : Int))) = !(x.2.Msgs.any fun m=>decide (x.1.Size < (m.size : Int))):=by
      rw [List.not_any_eq_all_not]
    rw [ha]
    by_cases e : x.1.Depth < (x.2.Msgs.length : Int)
    · have e' : ¬ (x.2.Msgs.length : Int) ≤ x.1.Depth:=by omega
      simp [e,e']
    · have e' : (x.2.Msgs.length : Int) ≤ x.1.Depth:=by omega
      rcases Bool.eq_false_or_eq_true (x.2.Msgs.any fun m=>decide (x.1.Size < (m.size : Int))) with b|b <;> simp only [b,e,e',decide_true,decide_false,cond_false,Bool.not_true,Bool.not_false,Bool.and_true,Bool.and_false,Bool.false_eq_true,if_true,if_false]) (by simp only [Us,Za8,Zd0,Option.bind_some,Int.lt_irrefl,decide_false,cond_false])
  rw [Wb] at h;simp only [Zbv,h,K11]
  generalize (List.all _ _ : Bool)=b
  cases b <;> simp
theorem Zpx (p : GPlan) (s : GState) (hok : Zow s) : Zbw p s=some (K12 p s):=by
  have h:=Zb7 (L:=Ut p s) (l:=p.Ports.zip s.Ports) (z:=()) (fun _ x=>k12 x) (fun i x hi hx=>by
    obtain⟨g1,g2,g3,g4⟩:=Zr1 hok hi hx;simp only [Ut,Za1,Za8,Zd0,g1,g2,g3,g4,decide_true,cond_true,Option.bind_some,k12]
    by_cases e1 : x.2.Age < 0
    · have e : bt x.2.Age 0 255=false:=by unfold bt;simp;omega
      simp [e,e1]
    · by_cases e2 : 255 < x.2.Age
      · have e : bt x.2.Age 0 255=false:=by unfold bt;simp;omega
        simp [e,e1,e2]
      · have e : bt x.2.Age 0 255=true:=by unfold bt;simp;omega
        by_cases e3 : x.2.Age=0
        · have e' : bt 0 0 255=true:=rfl;simp [e',e3]
        · by_cases e4 : x.1.Kind=1
          · by_cases e5 : x.2.Msgs.length=0
            · simp only [e,e1,e2,e3,e4,e5,decide_true,decide_false,cond_true,cond_false,Option.bind_some,Bool.not_true,Bool.not_false,Bool.true_and,Bool.and_true,Bool.false_or,Nat.lt_irrefl,Bool.false_eq_true,if_false]
            · have e6 : 0 < x.2.Msgs.length:=by omega
              simp only [e,e1,e2,e3,e4,e5,e6,decide_true,decide_false,cond_true,cond_false,Option.bind_some,Bool.not_true,Bool.not_false,Bool.true_and,Bool.and_true,Bool.false_or,if_true]
          · simp [e,e1,e2,e3,e4]) (by simp only [Ut,Za8,Zd0,Option.bind_some,Int.lt_irrefl,decide_false,cond_false])
  rw [Wb] at h;simp only [Zbw,h,K12]
  generalize (List.all _ _ : Bool)=b
  cases b <;> simp
theorem Zpy (p : GPlan) (s : GState) (hok : Zow s) : Zbx p s=some (K13 p s):=by
  have h:=Zb7 (L:=Uu p s) (l:=p.Pages.zip s.Pages) (z:=()) (fun _ x=>decide (x.1.Rights=x.2.Rights)) (fun i x hi hx=>by
    obtain⟨h1,h2⟩:=List.getElem?_zip_eq_some.1 hx;have hl : i < s.Pages.length:=(List.getElem?_eq_some_iff.1 h2).1;have g1 : rdI p.Pages (i : Int)=some x.1:=by simp [rdI,h1]
    have g2 : rdI s.Pages (i : Int)=some x.2:=by simp [rdI,h2]
    have g3 : IntKind.i64.wrap ((i : Int) + 1)=((i + 1 : Nat) : Int):=by have:=hok.1.2.2;rw [Vb ⟨by omega,by omega⟩];rfl
    have g4 : (i : Int) < ((p.Pages.zip s.Pages).length : Int):=by omega
    have hcm : (x.2.Rights=x.1.Rights)=(x.1.Rights=x.2.Rights):=propext ⟨Eq.symm,Eq.symm⟩;simp only [Uu,Za8,Zd0,g1,g2,g3,g4,hcm,decide_true,cond_true,Option.bind_some]
    by_cases e : x.1.Rights=x.2.Rights <;> simp [e]) (by simp only [Uu,Za8,Zd0,Option.bind_some,Int.lt_irrefl,decide_false,cond_false])
  rw [Wb] at h;simp only [Zbx,h,K13]
  generalize (List.all _ _ : Bool)=b
  cases b <;> simp
theorem Zn8 (a b : Int) : (if a < b then a else b)=mn a b:=by unfold mn;split <;> split <;> omega
theorem Zpz (p : GPlan) (s : GState) : Zby p s=some (K14 p s):=by
  have h:=Vv (L:=Uv p s) (l:=s.Procs) (z:=()) (fun _ x=>k14 p s x) (fun i x hi hx=>by
    simp only [Uv,Za2,hi,hx,decide_true,cond_true,Option.bind_some,Za8,Zn8,k14]
    by_cases e : x.Wait=2
    · by_cases e1 : 0 ≤ x.Obj
      · by_cases e2 : x.Obj < mn s.Up.length p.Events
        · have e3 : wn x.Obj (mn s.Up.length p.Events)=true:=by simp [wn,e1,e2]
          obtain⟨y,hy⟩:=Zg1 (Zmt e3 (Zmu _ _).1);cases y <;> simp [e,e1,e2,e3,hy,upAt]
        · have e3 : wn x.Obj (mn s.Up.length p.Events)=false:=by simp [wn,e2]
          simp [e,e1,e2,e3]
      · have e3 : wn x.Obj (mn s.Up.length p.Events)=false:=by simp [wn,e1]
        simp [e,e1,e3]
    · simp [e]) (by simp [Uv])
  rw [Wb] at h;simp only [Zby,h,K14]
  generalize (List.all _ _ : Bool)=b
  cases b <;> simp
theorem Zp0 (p : GPlan) (s : GState) : Zbz p s=some (K15 p s):=by
  have h:=Vv (L:=Uw p s) (l:=s.Procs) (z:=()) (fun _ x=>k15 p s x) (fun i x hi hx=>by
    simp only [Uw,Za3,hi,hx,decide_true,cond_true,Option.bind_some,Za8,Zn8,k15]
    by_cases e : x.Wait=3
    · by_cases e1 : 0 ≤ x.Obj
      · by_cases e2 : x.Obj < mn s.Sems.length p.Sems.length
        · have e3 : wn x.Obj (mn s.Sems.length p.Sems.length)=true:=by simp [wn,e1,e2]
          obtain⟨y,hy⟩:=Zg1 (Zmt e3 (Zmu _ _).1)
          by_cases e4 : y=0 <;> simp [e,e1,e2,e3,hy,smAt,e4]
        · have e3 : wn x.Obj (mn s.Sems.length p.Sems.length)=false:=by simp [wn,e2]
          simp [e,e1,e2,e3]
      · have e3 : wn x.Obj (mn s.Sems.length p.Sems.length)=false:=by simp [wn,e1]
        simp [e,e1,e3]
    · simp [e]) (by simp [Uw])
  rw [Wb] at h;simp only [Zbz,h,K15]
  generalize (List.all _ _ : Bool)=b
  cases b <;> simp
theorem Zp1 (p : GPlan) (s : GState) : Zb0 p s=some (K16 p s):=by
  have h:=Vv (L:=Wg p s) (l:=s.Procs) (z:=()) (fun _ x=>k16 p s x) (fun i x hi hx=>by
    simp only [Wg,Tv,Tu,Tt,hi,hx,decide_true,cond_true,Option.bind_some,Za8,Zn8,k16,Zu8 (s.Ports.length : Int)]
    by_cases e : x.Wait=4
    · by_cases e1 : x.Obj < 0
      · have e3 : wn x.Obj (mn p.Ports.length s.Ports.length)=false:=by unfold wn;simp;omega
        simp [e,e1,e3]
      · by_cases e2 : mn p.Ports.length s.Ports.length ≤ x.Obj
        · have e3 : wn x.Obj (mn p.Ports.length s.Ports.length)=false:=by unfold wn;simp;omega
          simp [e,e1,e2,e3]
        · have e3 : wn x.Obj (mn p.Ports.length s.Ports.length)=true:=by unfold wn;simp;omega
          obtain⟨y,hy⟩:=Zg1 (Zmt e3 (Zmu _ _).1);obtain⟨z,hz⟩:=Zg1 (Zmt e3 (Zmu _ _).2);simp only [e,e1,e2,e3,hy,hz,decide_true,decide_false,cond_true,cond_false,Option.bind_some,Bool.not_true,Bool.not_false,Bool.and_self,if_true,k16i]
          by_cases e4 : y.Kind=3
          · have e5 : ¬ y.Kind=4:=by omega
            by_cases e6 : z.Msgs.length=0
            · simp only [e4,e5,e6,decide_true,decide_false,cond_true,cond_false,Option.bind_some,Bool.not_true,if_true,show ¬ (3 : Int)=4 by decide]
            · simp only [e4,e5,e6,decide_true,decide_false,cond_true,cond_false,Option.bind_some,Bool.not_false,Bool.false_eq_true,if_true,if_false]
          · by_cases e5 : y.Kind=4
            · by_cases e6 : (z.Msgs.length : Int)=y.Depth
              · simp only [e5,e6,decide_true,decide_false,cond_true,cond_false,Option.bind_some,Bool.not_true,if_true,if_false,show ¬ (4 : Int)=3 by decide]
              · simp only [e5,e6,decide_true,decide_false,cond_true,cond_false,Option.bind_some,Bool.not_false,Bool.false_eq_true,if_true,if_false,show ¬ (4 : Int)=3 by decide]
            · simp only [e4,e5,decide_false,cond_false,Option.bind_some,if_false,if_true]
    · simp [e]) (by simp [Wg])
  rw [Wb] at h;simp only [Zb0,h,K16]
  generalize (List.all _ _ : Bool)=b
  cases b <;> simp
theorem Zp2 (p : GPlan) (s : GState) (hok : Zow s) : Zb1 p s=some (K17 p s):=by
  have h:=Zb7 (L:=Ux p s) (l:=p.Ports.zip s.Ports) (z:=()) (fun _ x=>k17 x) (fun i x hi hx=>by
    obtain⟨g1,g2,g3,g4⟩:=Zr1 hok hi hx;simp only [Ux,Za4,Za8,Zd0,g1,g2,g3,g4,decide_true,cond_true,Option.bind_some,k17];have e6 : decide (0 < x.2.Msgs.length) = !decide (x.2.Msgs.length=0):=by
      by_cases e : x.2.Msgs.length=0
      · rw [e];rfl
      · have : 0 < x.2.Msgs.length:=by omega
        simp [e,this]
    rw [e6]
    by_cases e7 : x.2.Msgs.length=0
    · by_cases e2 : x.1.Kind=2
      · simp only [e2,e7,decide_true,cond_true,cond_false,Option.bind_some,Bool.not_true,Bool.true_or,Bool.or_true,if_true]
      · by_cases e4 : x.1.Kind=4
        · simp only [e2,e4,e7,decide_true,decide_false,cond_true,cond_false,Option.bind_some,Bool.not_true,Bool.false_or,Bool.or_true,if_true,show ¬ (4 : Int)=2 by decide]
        · simp only [e2,e4,e7,decide_true,decide_false,cond_false,Option.bind_some,Bool.or_self,Bool.not_false,Bool.true_or,if_true]
    · by_cases e2 : x.1.Kind=2
      · simp only [e2,e7,decide_true,decide_false,cond_true,Option.bind_some,Bool.not_true,Bool.not_false,Bool.true_or,Bool.or_false,Bool.false_eq_true,if_false]
      · by_cases e4 : x.1.Kind=4
        · simp only [e2,e4,e7,decide_true,decide_false,cond_true,cond_false,Option.bind_some,Bool.not_true,Bool.not_false,Bool.false_or,Bool.or_false,Bool.false_eq_true,if_false,show ¬ (4 : Int)=2 by decide]
        · simp only [e2,e4,e7,decide_false,cond_false,Option.bind_some,Bool.or_self,Bool.not_false,Bool.true_or,if_true]) (by simp only [Ux,Za8,Zd0,Option.bind_some,Int.lt_irrefl,decide_false,cond_false])
  rw [Wb] at h;simp only [Zb1,h,K17]
  generalize (List.all _ _ : Bool)=b
  cases b <;> simp
theorem Ztb (s : GState) : Kp (Gl s) 0=some (if K10 s=true then .inl () else .inr false):=by
  have h:=Vv (L:=Gl s) (l:=s.Sems) (z:=()) (fun _ n=>bt n 0 255) (fun i x hi hx=>by
    simp only [Gl,Zct,hi,hx,decide_true,cond_true,Option.bind_some]
    by_cases e1 : x < 0
    · have e : bt x 0 255=false:=by unfold bt;simp;omega
      simp [e,e1]
    · by_cases e2 : 255 < x
      · have e : bt x 0 255=false:=by unfold bt;simp;omega
        simp [e,e1,e2]
      · have e : bt x 0 255=true:=by unfold bt;simp;omega
        simp [e,e1,e2]) (by simp [Gl])
  rw [Wb] at h;exact h
theorem Ztc (p : GPlan) (s : GState) (hok : Zow s) (k : Nat) (hk : k < 17) : Jp ((k + 1 : Nat) : Int) p s=some (Zjk p s)[k]:=by
  have h4:=Zru s;have h5:=Zrv s;have h6:=Zrw p s;have h7:=Zrx s hok;have h8:=Zrz s hok;have h9:=Zr0 s;have h10:=Ztb s;have h11:=Zpw p s hok;have h12:=Zpx p s hok;have h13:=Zpy p s hok;have h14:=Zpz p s;have h15:=Zp0 p s;have h16:=Zp1 p s;have h17:=Zp2 p s hok
  match k,hk with
  | 0,_=>rfl
  | 1,_=>simp [Jp,Zjk,K2,bt,Bool.and_assoc]
  | 2,_=>rfl
  | 3,_=>simp [Jp,Zjk,h4]
  | 4,_=>simp [Jp,Zjk,h5]
  | 5,_=>simp [Jp,Zjk,h6]
  | 6,_=>simp [Jp,Zjk,h7]
  | 7,_=>simp [Jp,Zjk,h8]
  | 8,_=>simp [Jp,Zjk,h9]
  | 9,_=>
    simp only [Jp,h10];have : (Zjk p s)[9]=K10 s:=rfl;rw [this]
    rcases Bool.eq_false_or_eq_true (K10 s) with e|e <;> simp [e]
  | 10,_=>simp [Jp,Ks,Zjk,h11]
  | 11,_=>simp [Jp,Ks,Zjk,h12]
  | 12,_=>simp [Jp,Ks,Zjk,h13]
  | 13,_=>simp [Jp,Ks,Zjk,h14]
  | 14,_=>simp [Jp,Ks,Zjk,h15]
  | 15,_=>simp [Jp,Ks,Zjk,h16]
  | 16,_=>simp [Jp,Ks,Zjk,h17]
  | k + 17,hk=>exact absurd hk (by omega)
theorem Zp3 (p : GPlan) (s : GState) (hok : Zow s) : Zae p s=some (Gn p s):=by
  unfold Gn
  by_cases h : Zdr p=.nil
  rotate_left
  · rw [if_pos h];simp only [Zae,Zhg,h,decide_false,Bool.not_false,cond_true,Option.bind_some]
  rw [if_neg (by simpa using h)];have hkp:=Ztc p s hok
  generalize Zjk p s=v at hkp
  have h17 : v.toList.length=17:=by simp
  have key : ∀ m k,k + m=17 → Kp (Vu p s) (brk 0 (v.toList.take k),((k + 1 : Nat) : Int))=some (brk 0 v.toList):=by
    intro m
    induction m with
    | zero=>
      intro k hk;obtain rfl : k=17:=by omega
      rw [List.take_of_length_le (by omega)];exact Yz (by simp [Vu])
    | succ m ih=>
      intro k hk;have hlt : k < 17:=by omega
      have hlt' : k < v.toList.length:=by omega
      have hb : v.toList[k]? = some v[k]:=by simp [hlt]
      have hrd:=hkp k hlt;have hl:=Zn6 (v.toList.take k) 0;rw [List.length_take] at hl;have hc : ((brk 0 (v.toList.take k)).length + [((k + 1 : Nat) : Int)].length) * 8 ≤ 140737488355328:=by
        simp only [List.length_cons,List.length_nil];omega
      have hle : ((k + 1 : Nat) : Int) ≤ 17:=by omega
      have hw : IntKind.i64.wrap (((k + 1 : Nat) : Int) + 1)=((k + 1 + 1 : Nat) : Int):=by rw [Vb ⟨by omega,by omega⟩];rfl
      have hs : Vu p s (brk 0 (v.toList.take k),((k + 1 : Nat) : Int))=some (.inl (brk 0 (v.toList.take (k + 1)),((k + 1 + 1 : Nat) : Int))):=by
        rw [Vl hb,Zlx,List.length_take,Nat.min_eq_left (by omega),Nat.zero_add];simp only [Vu,Za5,hle,hrd,hw,decide_true,cond_true,Option.bind_some,chk,hc,if_true]
        rcases Bool.eq_false_or_eq_true v[k] with e|e <;> simp [e]
      rw [Vw hs];exact ih (k + 1) (by omega)
  have h0:=key 17 0 rfl;rw [List.take_zero] at h0;simp only [Zae,Zhg,h,decide_true,Bool.not_true,cond_false,Option.bind_some];exact (congrArg (fun o=>Option.bind o fun l=>some l) h0)
theorem Zm1 (p : GPlan) (s : GState) (hok : Zow s) (last : Int) : Zdi p s last=some ((Zhh p s last).code,(Zhh p s last).place):=by
  simp only [Zdi,Zbl,Zp3 p s hok,Option.bind_some,Zhh];cases h : Gn p s with
  | nil=>simp [cNil,pNil]
  | cons x r=>
    by_cases e : last < x
    · simp [e,cNil,pNil]
    · by_cases e2 : x=0
      · subst e2;simp [e,cPlan,pV]
      · have c9 : (ErrM.pl x Uy).code=9:=by rw [cPl,cState]
        simp [e,e2,c9,pPl]
theorem Ztd {v : List UInt8} {s : List UInt8} {k : Nat} {c : UInt8} (hk : k < s.length) (hv : k < v.length) (hc : s[k]? = some c) : (s.take k ++ v.drop k).set k c=s.take (k + 1) ++ v.drop (k + 1):=by
  have hl : (s.take k).length=k:=by rw [List.length_take];omega
  have hd : v.drop k=v[k] :: v.drop (k + 1):=List.drop_eq_getElem_cons hv;rw [List.set_append_right _ _ (by omega),hl,Nat.sub_self,hd,List.set_cons_zero,List.take_add_one,hc];simp
theorem Zte (p : GPlan) (i : Nat) (x : GPagePlan) (hx : p.Pages[i]? = some x) (hs : x.Init.size ≤ 64) : Kp (Gk p i) (0,(⟨x.Rights,false,Vector.replicate 64 0⟩ : GPage))=some (Zf2 x):=by
  have hsz : x.Init.data.toList.length=x.Init.size:=rfl;have h:=Zep (L:=Gk p i) (fun s : Int × GPage=>∃ k : Nat,k ≤ x.Init.size ∧ s.1=(k : Int) ∧ s.2.Rights=x.Rights ∧ s.2.Dirty=false ∧ s.2.Data.toList=x.Init.data.toList.take k ++ (Vector.replicate 64 (0 : UInt8)).toList.drop k) (fun r=>r=Zf2 x) (fun s=>x.Init.size - s.1.toNat) (fun s hI=>by
    obtain⟨z,t⟩:=s;obtain⟨k,hk,hz,hR,hD,hl⟩:=hI;simp only at hz hR hD hl;subst hz
    by_cases hlt : k < x.Init.size
    · have e1 : (k : Int) < ((x.Init.size : Nat) : Int):=by omega
      have hrd : rdS x.Init (k : Int)=some (((x.Init[k]'hlt).toNat : Nat) : Int):=by
        unfold rdS;rw [dif_pos ⟨by omega,by simpa using hlt⟩];rfl
      have hb : Za9 (((x.Init[k]'hlt).toNat : Nat) : Int)=x.Init[k]'hlt:=by
        have h1:=Zfo (((x.Init[k]'hlt).toNat : Nat) : Int);have h2:=(x.Init[k]'hlt).toNat_lt;apply UInt8.toNat_inj.1;omega
      have hc : x.Init.data.toList[k]? = some (x.Init[k]'hlt):=by
        rw [List.getElem?_eq_getElem (by rw [hsz];exact hlt)];rfl
      have hv : rdV t.Data (k : Int)=some (t.Data[k]'(by omega)):=by
        rw [Zqz];simp
      have hw : IntKind.i64.wrap ((k : Int) + 1)=((k + 1 : Nat) : Int):=by rw [Vb ⟨by omega,by omega⟩];omega
      refine .inl ⟨(((k + 1 : Nat) : Int),⟨t.Rights,t.Dirty,t.Data.setIfInBounds k (x.Init[k]'hlt)⟩),?_,⟨k + 1,by omega,rfl,hR,hD,?_⟩,by simp only;omega⟩
      · simp only [Gk,hx,e1,hrd,hv,hw,hb,decide_true,cond_true,Option.bind_some,Int.toNat_natCast]
      · have : (t.Data.setIfInBounds k (x.Init[k]'hlt)).toList=t.Data.toList.set k (x.Init[k]'hlt):=by
          simp [Vector.toList]
        rw [this,hl,Ztd (by omega) (by simp;omega) hc]
    · have e1 : ¬ (k : Int) < ((x.Init.size : Nat) : Int):=by omega
      obtain rfl : k=x.Init.size:=by omega
      refine .inr ⟨t,?_,?_⟩
      · simp only [Gk,hx,e1,decide_false,cond_false,Option.bind_some]
      · have : t.Data=cpyV (Vector.replicate 64 0) x.Init:=by
          apply Vector.toList_inj.1;rw [hl,Zq5,cpyL];rw [List.take_of_length_le (by omega),List.take_of_length_le (by simp;omega)]
        cases t
        simp only at hR hD this;simp only [Zf2,hR,hD,this]) (s:=(0,⟨x.Rights,false,Vector.replicate 64 0⟩)) ⟨0,Nat.zero_le _,rfl,rfl,rfl,by simp⟩
  obtain⟨_,h,rfl⟩:=h;exact h
theorem Zox {p : GPlan} (h : Zdr p=.nil) : Zcy p=some (Zf3 p):=by
  have ok:=okP_of h;have okK:=okK_of h;have hA:=Zep (L:=He p) (fun s : Nat × List GProc × List Int=>s.1 ≤ p.Procs.length ∧ s.2.1=(p.Procs.take s.1).map Zn7 ∧ s.2.2=Zci 0 (p.Procs.take s.1)) (fun r=>r=(p.Procs.map Zn7,Zci 0 p.Procs)) (fun s=>p.Procs.length - s.1) (fun s hI=>by
    obtain⟨i,l1,l2⟩:=s;obtain⟨hi,h1,h2⟩:=hI;simp only at hi h1 h2
    by_cases hlt : i < p.Procs.length
    · have hx : p.Procs[i]? = some p.Procs[i]:=List.getElem?_eq_getElem hlt
      generalize p.Procs[i]=x at hx
      have hl1 : l1.length=i:=by rw [h1];simp;omega
      have hl2:=Zov (p.Procs.take i) 0;rw [← h2,List.length_take] at hl2;have hp:=ok.pr1;have c1 : ∀ t : GProc,(l1.length + [t].length) * 104 ≤ 140737488355328:=fun t=>by simp only [List.length_cons,List.length_nil];omega
      have c2 : (l2.length + [((i : Nat) : Int)].length) * 8 ≤ 140737488355328:=by simp only [List.length_cons,List.length_nil];omega
      have e1 : (p.Procs.take (i + 1)).map Zn7=l1 ++ [Zn7 x]:=by rw [Vl hx,List.map_append,h1];rfl
      have e2 : Zci 0 (p.Procs.take (i + 1))=l2 ++ (if x.Auto=true then [((i : Nat) : Int)] else []):=by rw [Vl hx,Zm0,← h2,List.length_take,Nat.min_eq_left (by omega),Nat.zero_add]
      refine .inl ⟨(i + 1,l1 ++ [Zn7 x],l2 ++ (if x.Auto=true then [((i : Nat) : Int)] else [])),?_,⟨by simp only;omega,e1.symm,e2.symm⟩,by simp only;omega⟩;simp only [He,Zcq,hlt,hx,decide_true,cond_true,Option.bind_some,Zn7]
      rcases Bool.eq_false_or_eq_true x.Auto with e|e
      · simp only [e,cond_true,chk,c1,c2,if_true,Option.bind_some]
      · simp only [e,cond_false,chk,c1,if_true,Option.bind_some,Bool.false_eq_true,if_false,List.append_nil]
    · refine .inr ⟨(l1,l2),?_,?_⟩
      · simp only [He,hlt,decide_false,cond_false]
      · have : p.Procs.take i=p.Procs:=List.take_of_length_le (by omega);rw [this] at h1 h2;rw [h1,h2]) (s:=(0,[],[])) ⟨Nat.zero_le _,rfl,rfl⟩
  obtain⟨_,hA,rfl⟩:=hA;have hB:=Zep (L:=Hb p) (fun s : Nat × List GPage=>s.1 ≤ p.Pages.length ∧ s.2=(p.Pages.take s.1).map Zf2) (fun r=>r=p.Pages.map Zf2) (fun s=>p.Pages.length - s.1) (fun s hI=>by
    obtain⟨i,l1⟩:=s;obtain⟨hi,h1⟩:=hI;simp only at hi h1
    by_cases hlt : i < p.Pages.length
    · have hx : p.Pages[i]? = some p.Pages[i]:=List.getElem?_eq_getElem hlt;have hsx:=(okK.pag p.Pages[i] (List.getElem_mem hlt)).2.2
      generalize p.Pages[i]=x at hx hsx
      have hl1 : l1.length=i:=by rw [h1];simp;omega
      have hp:=ok.pg1;have c1 : ∀ t : GPage,(l1.length + [t].length) * 80 ≤ 140737488355328:=fun t=>by simp only [List.length_cons,List.length_nil];omega
      have e1 : (p.Pages.take (i + 1)).map Zf2=l1 ++ [Zf2 x]:=by rw [Vl hx,List.map_append,h1];rfl
      refine .inl ⟨(i + 1,l1 ++ [Zf2 x]),?_,⟨by simp only;omega,e1.symm⟩,by simp only;omega⟩;simp only [Hb,hlt,hx,Zte p i x hx hsx,decide_true,cond_true,Option.bind_some,chk,c1,if_true]
    · refine .inr ⟨l1,?_,?_⟩
      · simp only [Hb,hlt,decide_false,cond_false]
      · have : p.Pages.take i=p.Pages:=List.take_of_length_le (by omega);rw [this] at h1;rw [h1]) (s:=(0,[])) ⟨Nat.zero_le _,rfl⟩
  obtain⟨_,hB,rfl⟩:=hB;have c0:=ok.ev0;have c1:=ok.ev1;have hC:=Zep (L:=Hd p) (fun s : Int × List Bool=>∃ k : Nat,(k : Int) ≤ p.Events ∧ s.1=(k : Int) ∧ s.2=List.replicate k false) (fun r=>r=List.replicate p.Events.toNat false) (fun s=>p.Events.toNat - s.1.toNat) (fun s hI=>by
    obtain⟨z,l⟩:=s;obtain⟨k,hk,hz,hl⟩:=hI;simp only at hz hl;subst hz hl
    by_cases hlt : (k : Int) < p.Events
    · have hw : IntKind.i64.wrap ((k : Int) + 1)=((k + 1 : Nat) : Int):=by rw [Vb ⟨by omega,by omega⟩];omega
      have c : ((List.replicate k false).length + [false].length) * 1 ≤ 140737488355328:=by simp;omega
      refine .inl ⟨(((k + 1 : Nat) : Int),List.replicate (k + 1) false),?_,⟨k + 1,by omega,rfl,rfl⟩,by simp only;omega⟩;simp only [Hd,hlt,hw,chk,c,if_true,decide_true,cond_true];rw [List.replicate_succ']
    · refine .inr ⟨List.replicate k false,?_,?_⟩
      · simp only [Hd,hlt,decide_false,cond_false]
      · congr 1;omega) (s:=(0,[])) ⟨0,by omega,rfl,rfl⟩
  obtain⟨_,hC,rfl⟩:=hC;have hD:=Zep (L:=Hc p) (fun s : Nat × List GPort=>s.1 ≤ p.Ports.length ∧ s.2=List.replicate s.1 ⟨[],0⟩) (fun r=>r=List.replicate p.Ports.length ⟨[],0⟩) (fun s=>p.Ports.length - s.1) (fun s hI=>by
    obtain⟨i,l⟩:=s;obtain⟨hi,hl⟩:=hI;simp only at hi hl;subst hl;have hp:=ok.po1
    by_cases hlt : i < p.Ports.length
    · have c : ((List.replicate i (⟨[],0⟩ : GPort)).length + 1) * 32 ≤ 140737488355328:=by simp;omega
      refine .inl ⟨(i + 1,List.replicate (i + 1) ⟨[],0⟩),?_,⟨by simp only;omega,rfl⟩,by simp only;omega⟩;simp only [Hc,hlt,chk,c,if_true,decide_true,cond_true];rw [List.replicate_succ']
    · refine .inr ⟨List.replicate i ⟨[],0⟩,?_,?_⟩
      · simp only [Hc,hlt,decide_false,cond_false]
      · congr 1;omega) (s:=(0,[])) ⟨Nat.zero_le _,rfl⟩
  obtain⟨_,hD,rfl⟩:=hD;have c2 : (([] : List Int).length + p.Sems.length) * 8 ≤ 140737488355328:=by have:=ok.se1;simp only [List.length_nil];omega
  simp only [Zcy,chk,c2,hA,hB,hC,hD,Option.bind_some,if_true,List.nil_append];rfl
theorem Zds {α : Type} {L : Nat → Option (Nat ⊕ (Unit ⊕ Bool))} {l : List α} (h : ∀ i x,i < l.length → l[i]? = some x → L i=some (.inl (i + 1))) (h2 : L l.length=some (.inr (.inl ()))) : Kp L 0=some (.inl ()):=by
  have hL:=Wo (L:=L) (l:=l) (f:=fun _ _=>none) (fun i x hi hx=>by rw [h i x hi hx,Zbn]) h2;rw [hL];have : ∀ (l : List α) k,Ja (fun (_ : Nat) (_ : α)=>(none : Option Bool)) k l=none:=by
    intro l
    induction l with
    | nil=>intro k;rfl
    | cons x r ih=>intro k;rw [Ja];exact ih _
  rw [this];rfl
theorem Zly (l : List Int) : Zcw l l=some true:=by
  have h:=Zds (L:=Hz l l) (l:=l) (fun i x hi hx=>by
    simp only [Hz,hi,hx,decide_true,cond_true,Option.bind_some,Bool.not_true,cond_false]) (by simp [Hz])
  simp only [Zcw,h,decide_true,Bool.not_true,cond_false,Option.bind_some]
theorem Zlz (s : GState) : Zef s s=some true:=by
  have h1:=Zds (L:=Ha s s) (l:=s.Procs) (fun i x hi hx=>by
    simp only [Ha,hi,hx,decide_true,cond_true,Option.bind_some,Bool.not_true,cond_false]) (by simp [Ha])
  have h2:=Zds (L:=Gz s s) (l:=s.Timers) (fun i x hi hx=>by
    simp only [Gz,hi,hx,decide_true,cond_true,Option.bind_some,Bool.not_true,cond_false]) (by simp [Gz])
  have h3:=Zds (L:=Gy s s) (l:=s.Up) (fun i x hi hx=>by
    simp only [Gy,hi,hx,decide_true,cond_true,Option.bind_some,beq_self_eq_true,Bool.not_true,cond_false]) (by simp [Gy])
  have h4:=Zds (L:=Gx s s) (l:=s.Ports) (fun i x hi hx=>by
    have h:=Zds (L:=Gw s s i) (l:=x.Msgs) (fun j m hj hm=>by
      simp only [Gw,hx,hj,hm,decide_true,cond_true,Option.bind_some,Bool.not_true,cond_false]) (by simp [Gw,hx])
    simp only [Gx,Zbi,hi,hx,h,decide_true,cond_true,Option.bind_some,Bool.not_true,cond_false]) (by simp [Gx])
  simp only [Zef,h1,h2,h3,h4,Zly,decide_true,Bool.not_true,Bool.or_false,cond_false,cond_true,Option.bind_some]
theorem Zhj (s : GState) : Zcx s s=some true:=by
  have h:=Zds (L:=Ta s s) (l:=s.Pages) (fun i x hi hx=>by
    simp only [Ta,hi,hx,decide_true,cond_true,Option.bind_some,Bool.not_true,cond_false]) (by simp [Ta])
  simp only [Zcx,Zcp,Zlz,h,decide_true,Bool.not_true,cond_false,Option.bind_some]
end Go.Proofs.YtjekfpnpfllaoaaGreatDoor
set_option linter.unusedVariables false
set_option linter.unusedSimpArgs false
set_option linter.unusedSectionVars false
namespace Go.Proofs.YtjekfpnpfllaoaaGreatDoor
open Go Go.RowKit
structure OkS (s : GState) : Prop where
  a : s.Procs.length * 104 ≤ 140737488355328
  b : s.Ready.length * 8 ≤ 140737488355328
  c : s.Timers.length * 16 ≤ 140737488355328
  d : s.Up.length * 1 ≤ 140737488355328
  e : s.Sems.length * 8 ≤ 140737488355328
  f : s.Pages.length * 80 ≤ 140737488355328
  g : s.Ports.length * 32 ≤ 140737488355328
  h : ∀ x ∈ s.Ports,x.Msgs.length * 16 ≤ 140737488355328
theorem OkS.sm {s : GState} (ok : OkS s) : Zow s:=by
  obtain⟨ha,hb,hc,hd,he,hf,hg,hh⟩:=ok;exact⟨⟨by omega,by omega,by omega⟩,by omega,by omega⟩
theorem Zdt {s : GState} (ok : OkS s) : Gv s=some s:=by
  obtain⟨ha,hb,hc,hd,he,hf,hg,hh⟩:=ok;have hL:=Zf9 (L:=Hy s) (fun t : Nat × List GPort=>t.1 ≤ s.Ports.length ∧ t.2=s.Ports.take t.1) (fun r=>r=s.Ports) (fun t=>s.Ports.length - t.1) (fun t hI=>by
    obtain⟨i,l1⟩:=t;obtain⟨hi,h1⟩:=hI;simp only at hi h1
    by_cases hlt : i < s.Ports.length
    · have hx : s.Ports[i]? = some s.Ports[i]:=List.getElem?_eq_getElem hlt;have hm:=hh _ (List.getElem_mem hlt)
      generalize s.Ports[i]=x at hx hm
      have hl1 : l1.length=i:=by rw [h1];simp;omega
      have c1 : (([] : List ByteArray).length + x.Msgs.length) * 16 ≤ 140737488355328:=by simp only [List.length_nil];omega
      have c2 : (l1.length + 1) * 32 ≤ 140737488355328:=by omega
      refine .inl ⟨(i + 1,l1 ++ [x]),?_,⟨by simp only;omega,by simp only;rw [Zjf hx,h1]⟩,by simp only;omega⟩;simp only [Hy,hlt,hx,decide_true,cond_true,Option.bind_some,chk,c1,c2,if_true,List.nil_append]
    · refine .inr ⟨l1,?_,?_⟩
      · simp only [Hy,hlt,decide_false,cond_false]
      · rw [h1,List.take_of_length_le (by omega)]) (s:=(0,[])) ⟨Nat.zero_le _,rfl⟩
  obtain⟨_,hL,rfl⟩:=hL;have c1 : (([] : List GProc).length + s.Procs.length) * 104 ≤ 140737488355328:=by simp only [List.length_nil];omega
  have c2 : (([] : List Int).length + s.Ready.length) * 8 ≤ 140737488355328:=by simp only [List.length_nil];omega
  have c3 : (([] : List GTimer).length + s.Timers.length) * 16 ≤ 140737488355328:=by simp only [List.length_nil];omega
  have c4 : (([] : List Bool).length + s.Up.length) * 1 ≤ 140737488355328:=by simp only [List.length_nil];omega
  have c5 : (([] : List Int).length + s.Sems.length) * 8 ≤ 140737488355328:=by simp only [List.length_nil];omega
  have c6 : (([] : List GPage).length + s.Pages.length) * 80 ≤ 140737488355328:=by simp only [List.length_nil];omega
  simp only [Gv,chk,c1,c2,c3,c4,c5,c6,if_true,hL,Option.bind_some,List.nil_append]
theorem Zr2 {α : Type} {l : List α} {i : Nat} {x : α} (h : l[i]? = some x) : l.set i x=l:=by
  apply List.ext_getElem?;intro j;rw [List.getElem?_set]
  by_cases e : i=j
  · subst e;rw [if_pos rfl,if_pos (List.getElem?_eq_some_iff.1 h).1,h]
  · rw [if_neg e]
theorem Ze6 {s : GState} (ok : OkS s) : Zad s=some s:=by
  obtain⟨ha,hb,hc,hd,he,hf,hg,hh⟩:=ok;have hL:=Zf9 (L:=Uf s) (fun t : Nat × Nat × List GPort=>t.1 ≤ s.Ports.length ∧ t.2.1=t.1 ∧ t.2.2=s.Ports) (fun r=>r=(s.Ports.length,s.Ports)) (fun t=>s.Ports.length - t.1) (fun t hI=>by
    obtain⟨i,j,l⟩:=t;obtain⟨hi,hj,hl⟩:=hI;simp only at hi hj hl;subst hj hl
    by_cases hlt : j < s.Ports.length
    · have hx : s.Ports[j]? = some s.Ports[j]:=List.getElem?_eq_getElem hlt;have hm:=hh _ (List.getElem_mem hlt)
      generalize s.Ports[j]=x at hx hm
      have c1 : (([] : List ByteArray).length + x.Msgs.length) * 16 ≤ 140737488355328:=by simp only [List.length_nil];omega
      refine .inl ⟨(j + 1,j + 1,s.Ports),?_,⟨by simp only;omega,rfl,rfl⟩,by simp only;omega⟩;have hset : s.Ports.set j ⟨x.Msgs,x.Age⟩=s.Ports:=Zr2 hx;simp only [Uf,Wj,hlt,hx,hset,decide_true,cond_true,Option.bind_some,chk,c1,if_true,List.nil_append]
    · obtain rfl : j=s.Ports.length:=by omega
      exact .inr ⟨(s.Ports.length,s.Ports),by simp only [Uf,hlt,decide_false,cond_false],rfl⟩) (s:=(0,0,s.Ports)) ⟨Nat.zero_le _,rfl,rfl⟩
  obtain⟨_,hL,rfl⟩:=hL;have c1 : (([] : List GProc).length + s.Procs.length) * 104 ≤ 140737488355328:=by simp only [List.length_nil];omega
  have c2 : (([] : List Int).length + s.Ready.length) * 8 ≤ 140737488355328:=by simp only [List.length_nil];omega
  have c3 : (([] : List GTimer).length + s.Timers.length) * 16 ≤ 140737488355328:=by simp only [List.length_nil];omega
  have c4 : (([] : List Bool).length + s.Up.length) * 1 ≤ 140737488355328:=by simp only [List.length_nil];omega
  have c5 : (([] : List Int).length + s.Sems.length) * 8 ≤ 140737488355328:=by simp only [List.length_nil];omega
  have c6 : (([] : List GPage).length + s.Pages.length) * 80 ≤ 140737488355328:=by simp only [List.length_nil];omega
  have c7 : (([] : List GPort).length + s.Ports.length) * 32 ≤ 140737488355328:=by simp only [List.length_nil];omega
  simp only [Zad,Gf,Wi,Wx,Gg,Jg,chk,c1,c2,c3,c4,c5,c6,c7,if_true,hL,Option.bind_some,List.nil_append]
def atE (p : GPlan) (s : GState) : ErrM:=if Zdr p ≠ .nil then .v Zc5 else if Gn p s=[] then .nil else .v Uy
theorem Zr3 (p : GPlan) (s : GState) : Zhh p s 17=if Zdr p ≠ .nil then .v Zc5 else match Gn p s with
    | []=>.nil
    | x :: _=>.pl x Uy := by
  unfold Zhh
  by_cases h : Zdr p=.nil
  · rw [if_neg (fun c=>c h)];have hm : ∀ x ∈ Gn p s,1 ≤ x ∧ x ≤ 17:=fun x hx=>by
      unfold Gn at hx;rw [if_neg (fun c=>c h)] at hx;have:=Zrt _ _ _ hx;have h17 : (Zjk p s).toList.length=17:=by simp
      omega
    cases hf : Gn p s with
    | nil=>rfl
    | cons x r=>
      have:=hm x (by rw [hf];exact List.mem_cons_self ..);simp only;rw [if_neg (by omega),if_neg (by omega)]
  · rw [if_pos h];have hf : Gn p s=[0]:=by unfold Gn;rw [if_pos h]
    rw [hf];rfl
theorem Zjl (p : GPlan) : ∀ (l : List GState),(∀ s ∈ l,OkS s) → Yr p l=some (orN (Ja (fun _ s=>if atE p s=.nil then none else some (atE p s)) 0 l)):=by
  intro l hl;have hL:=Wo (L:=Yd p l) (l:=l) (f:=fun _ s=>if atE p s=.nil then none else some (atE p s)) (fun i s hi hx=>by
    have hr:=Zhv p s (hl s (List.mem_of_getElem? hx)).sm.1;rw [Zr3] at hr
    by_cases h : Zdr p=.nil
    · rw [if_neg (fun c=>c h)] at hr;cases hf : Gn p s with
      | nil=>
        have ea : atE p s=.nil:=by unfold atE;rw [if_neg (fun c=>c h),if_pos hf]
        rw [ea];rw [hf] at hr;have g0 : ¬ (ErrM.nil.g? = some Zc5):=by decide
        simp only [Yd,hi,hx,hr,g0,decide_true,decide_false,cond_true,cond_false,Option.bind_some,Bool.not_true,if_true,Zbn]
      | cons x r=>
        have ea : atE p s=.v Uy:=by unfold atE;rw [if_neg (fun c=>c h),if_neg (by rw [hf];intro h;cases h)]
        rw [ea];rw [hf] at hr;have g0 : ¬ ((ErrM.pl x Uy).g? = some Zc5):=by intro h;exact absurd (Option.some.inj h) (by decide)
        have g1 : ¬ (ErrM.pl x Uy=.nil):=fun h=>by cases h
        have g3 : ¬ (ErrM.v Uy=.nil):=fun h=>by cases h
        simp only [Yd,hi,hx,hr,g0,g1,g3,decide_true,decide_false,cond_true,cond_false,Option.bind_some,Bool.not_false,if_false,Tw]
    · have ea : atE p s=.v Zc5:=by unfold atE;rw [if_pos h]
      rw [ea];rw [if_pos h] at hr;have g0 : (ErrM.v Zc5).g? = some Zc5:=rfl;have g3 : ¬ (ErrM.v Zc5=.nil):=fun h=>by cases h
      simp only [Yd,hi,hx,hr,g0,g3,decide_true,cond_true,Option.bind_some,if_false,Tw]) (by simp [Yd])
  simp only [Yr,hL];cases Ja (fun (_ : Nat) s=>if atE p s=.nil then none else some (atE p s)) 0 l <;> rfl
theorem Zoy {p : GPlan} {s : GState} (h : OkS s) : Yr p [s]=some (atE p s):=by
  rw [Zjl p [s] (fun x hx=>by rw [List.mem_singleton.1 hx];exact h)]
  by_cases e : atE p s=.nil <;> simp [Ja,e,orN]
theorem check2 {p : GPlan} {s t : GState} (h : OkS s) (k : OkS t) : Yr p [s,t]=some (orE (atE p s) (atE p t)):=by
  rw [Zjl p [s,t] (fun x hx=>by
    rcases List.mem_cons.1 hx with rfl|hx
    · exact h
    · rw [List.mem_singleton.1 hx];exact k)]
  by_cases e : atE p s=.nil <;> by_cases e' : atE p t=.nil <;> simp [Ja,e,e',orN,orE]
theorem Zl0 : (ErrM.v Uy).code=9:=by decide
theorem Zt5 : (ErrM.v Zc5).code=8:=by decide
theorem Zu9 : ErrM.nil.code=0:=by decide
theorem r17_at {p : GPlan} {s : GState} (h : OkS s) : Zes p s=some (atE p s).code:=by
  have hr : Zaf p s=some ((Zhh p s 17).code,(Zhh p s 17).place):=by
    simp only [Zaf,Zm1 p s h.sm,Option.bind_some]
  rw [Zr3] at hr;unfold atE
  by_cases e : Zdr p=.nil
  · rw [if_neg (fun c=>c e)] at hr;rw [if_neg (fun c=>c e)];cases hf : Gn p s with
    | nil=>
      rw [hf] at hr;simp only [Zes,Zhg,e,hr,Zu9,decide_true,Bool.not_true,cond_false,Option.bind_some,if_true]
    | cons x r=>
      rw [hf] at hr;have g1 : (ErrM.pl x Uy).code=9:=by show (ErrM.v Uy).code=9;exact Zl0
      have g2 : ¬ (x :: r=[]):=fun h=>by cases h
      have g3 : ¬ ((9 : Int)=0):=by decide
      simp only [Zes,Zhg,e,hr,g1,g2,g3,Zl0,decide_true,decide_false,Bool.not_true,Bool.not_false,cond_true,cond_false,Option.bind_some,if_false]
  · rw [if_pos e];simp only [Zes,Zhg,e,Zt5,decide_false,Bool.not_false,cond_true,Option.bind_some]
theorem Zoz {p : GPlan} {s : GState} : (atE p s).code=0 ↔ atE p s=.nil:=by
  unfold atE;split
  · exact⟨(fun h=>by rw [Zt5] at h;cases h),(fun h=>by cases h)⟩
  · split
    · exact⟨fun _=>rfl,fun _=>Zu9⟩
    · exact⟨(fun h=>by rw [Zl0] at h;cases h),(fun h=>by cases h)⟩
theorem Zr4 {p : GPlan} {s : GState} : (atE p s).place=-1:=by
  unfold atE;split
  · rfl
  · split <;> rfl
theorem same17 {e : ErrM} {c : Int} (h : e.code=c) (hp : e.place=-1) : Zag e c=some true:=by
  simp only [Zag,h,hp,decide_true,cond_true]
theorem Zr5 {p : GPlan} {s : GState} (h : atE p s=.nil) : Zdr p=.nil ∧ Gn p s=[]:=by
  unfold atE at h
  by_cases e : Zdr p=.nil
  · rw [if_neg (fun c=>c e)] at h
    by_cases f : Gn p s=[]
    · exact⟨e,f⟩
    · rw [if_neg f] at h;cases h
  · rw [if_pos e] at h;cases h
theorem Zr6 : ∀ (l : List Bool) (k : Nat),brk k l=[] → ∀ b ∈ l,b=true
  | [],_,_,b,hb=>by cases hb
  | x :: r,k,h,b,hb=>by
    rw [brk] at h;have h1:=List.append_eq_nil_iff.1 h
    rcases List.mem_cons.1 hb with rfl|hb
    · by_cases e : b=true
      · exact e
      · rw [if_neg e] at h1;cases h1.1
    · exact Zr6 r (k + 1) h1.2 b hb
theorem Zm2 {p : GPlan} {s : GState} (h : atE p s=.nil) : K3 p s=true ∧ K13 p s=true:=by
  obtain⟨h1,h2⟩:=Zr5 h;unfold Gn at h2;rw [if_neg (fun c=>c h1)] at h2;have:=Zr6 _ _ h2;exact⟨this _ (by simp [Zjk]),this _ (by simp [Zjk])⟩
theorem Zkv {p : GPlan} {s : GState} (h : atE p s=.nil) : s.Pages.length=p.Pages.length:=by
  have:=(Zm2 h).1;unfold K3 at this;simp only [Bool.and_eq_true,decide_eq_true_eq] at this;omega
def Zl3 {α : Type} (q : α → Bool) : Nat → List α → List Int
  | _,[]=>[]
  | k,x :: r=>(if q x=true then [((k : Nat) : Int)] else []) ++ Zl3 q (k + 1) r
theorem Zm3 {α : Type} (q : α → Bool) (x : α) : ∀ (l : List α) (k : Nat),Zl3 q k (l ++ [x])=Zl3 q k l ++ (if q x=true then [((k + l.length : Nat) : Int)] else [])
  | [],k=>by simp [Zl3]
  | y :: r,k=>by
    rw [List.cons_append,Zl3,Zm3 q x r (k + 1),Zl3,List.append_assoc,List.length_cons,show k + 1 + r.length=k + (r.length + 1) by omega]
theorem Zo0 {α : Type} (q : α → Bool) : ∀ (l : List α) (k : Nat),(Zl3 q k l).length ≤ l.length
  | [],_=>Nat.le_refl _
  | y :: r,k=>by
    have:=Zo0 q r (k + 1);rw [Zl3,List.length_append,List.length_cons];split <;> simp <;> omega
theorem Zo1 {α : Type} {L : List Int × Nat → Option ((List Int × Nat) ⊕ List Int)} {l : List α} (q : α → Bool) (hs : l.length * 8 ≤ 140737488355328)
    (h : ∀ (z : List Int) (i : Nat) (x : α),i < l.length → l[i]? = some x → (z.length + 1) * 8 ≤ 140737488355328 → L (z,i)=some (.inl (z ++ (if q x=true then [((i : Nat) : Int)] else []),i + 1))) (h2 : ∀ z,L (z,l.length)=some (.inr z)) :
    Kp L ([],0)=some (Zl3 q 0 l):=by
  have hL:=Zf9 (L:=L) (fun t=>t.2 ≤ l.length ∧ t.1=Zl3 q 0 (l.take t.2)) (fun r=>r=Zl3 q 0 l) (fun t=>l.length - t.2) (fun t hI=>by
    obtain⟨z,i⟩:=t;obtain⟨hi,hz⟩:=hI;simp only at hi hz
    by_cases hlt : i < l.length
    · have hx : l[i]? = some l[i]:=List.getElem?_eq_getElem hlt;have hn:=Zo0 q (l.take i) 0;rw [← hz,List.length_take] at hn;refine .inl ⟨_,h z i _ hlt hx (by omega),⟨by simp only;omega,?_⟩,by simp only;omega⟩;simp only;rw [Zjf hx,Zm3,hz,List.length_take,Nat.min_eq_left (by omega),Nat.zero_add]
    · obtain rfl : i=l.length:=by omega
      exact .inr ⟨z,h2 z,by rw [hz,List.take_length]⟩) (s:=([],0)) ⟨Nat.zero_le _,rfl⟩
  obtain⟨_,hL,rfl⟩:=hL;exact hL
theorem Zf4 (l : List GPage) (hs : l.length * 80 ≤ 140737488355328) : Vm l=some (Zl3 GPage.Dirty 0 l):=by
  have hL:=Zo1 (L:=Ym l) (l:=l) GPage.Dirty (by omega) (fun z i x hi hx hz=>by
    have c : (z.length + [((i : Nat) : Int)].length) * 8 ≤ 140737488355328:=by simpa using hz
    rcases Bool.eq_false_or_eq_true x.Dirty with e|e
    · simp only [Ym,Ue,hi,hx,e,chk,c,if_true,decide_true,cond_true,Option.bind_some]
    · simp only [Ym,Ue,hi,hx,e,decide_true,cond_true,cond_false,Option.bind_some,Bool.false_eq_true,if_false,List.append_nil]) (fun z=>by simp [Ym])
  simp only [Vm,hL,Option.bind_some]
theorem Zr7 (s : GState) (hs : s.Pages.length * 80 ≤ 140737488355328) : Zdj s=some (Zl3 GPage.Dirty 0 s.Pages):=by
  have hL:=Zo1 (L:=Ws s) (l:=s.Pages) GPage.Dirty (by omega) (fun z i x hi hx hz=>by
    have c : (z.length + [((i : Nat) : Int)].length) * 8 ≤ 140737488355328:=by simpa using hz
    rcases Bool.eq_false_or_eq_true x.Dirty with e|e
    · simp only [Ws,Tl,hi,hx,e,chk,c,if_true,decide_true,cond_true,Option.bind_some]
    · simp only [Ws,Tl,hi,hx,e,decide_true,cond_true,cond_false,Option.bind_some,Bool.false_eq_true,if_false,List.append_nil]) (fun z=>by simp [Ws])
  simp only [Zdj,hL,Option.bind_some]
def Zgm (x : GPage) : GPage:=⟨x.Rights,false,x.Data⟩
theorem Zp4 {l : List GPage} {i : Nat} {x : GPage} (hx : l[i]? = some x) : ((l.take i).map Zgm ++ l.drop i).set i (Zgm x)=(l.take (i + 1)).map Zgm ++ l.drop (i + 1):=by
  have hlt:=(List.getElem?_eq_some_iff.1 hx).1;have hl : ((l.take i).map Zgm).length=i:=by simp;omega
  have hd : l.drop i=x :: l.drop (i + 1):=by
    rw [List.drop_eq_getElem_cons hlt];congr 1;exact Option.some.inj ((List.getElem?_eq_getElem hlt).symm.trans hx)
  rw [List.set_append_right _ _ (by omega),hl,Nat.sub_self,hd,List.set_cons_zero,Zjf hx];simp
theorem Zp5 (l : List GPage) (hs : l.length * 80 ≤ 140737488355328) : Zbs l=some (l.map Zgm):=by
  have c : (([] : List GPage).length + l.length) * 80 ≤ 140737488355328:=by simp only [List.length_nil];omega
  have hL:=Zf9 (L:=Ug l) (fun t=>t.2 ≤ l.length ∧ t.1=(l.take t.2).map Zgm ++ l.drop t.2) (fun r=>r=l.map Zgm) (fun t=>l.length - t.2) (fun t hI=>by
    obtain⟨z,i⟩:=t;obtain⟨hi,hz⟩:=hI;simp only at hi hz
    by_cases hlt : i < l.length
    · have hx : l[i]? = some l[i]:=List.getElem?_eq_getElem hlt
      generalize l[i]=x at hx
      have hx' : z[i]? = some x:=by
        rw [hz,List.getElem?_append_right (by simp;omega)];simp only [List.length_map,List.length_take,Nat.min_eq_left (Nat.le_of_lt hlt),Nat.sub_self,List.getElem?_drop,Nat.add_zero,hx]
      refine .inl ⟨(z.set i (Zgm x),i + 1),?_,⟨by simp only;omega,by simp only;rw [hz,Zp4 hx]⟩,by simp only;omega⟩;simp only [Ug,hlt,hx',decide_true,cond_true,Option.bind_some,Zgm]
    · obtain rfl : i=l.length:=by omega
      refine .inr ⟨z,by simp only [Ug,hlt,decide_false,cond_false],?_⟩;rw [hz,List.take_length,List.drop_length,List.append_nil]) (s:=(l,0)) ⟨Nat.zero_le _,by simp⟩
  obtain⟨_,hL,rfl⟩:=hL;simp only [Zbs,Gi,Jg,chk,c,if_true,List.nil_append,hL,Option.bind_some]
section
variable {σ ρ τ : Type}
theorem Ztf {L1 : σ → Option (σ ⊕ ρ)} {L2 : σ → Option (σ ⊕ τ)} (I : σ → Prop) (Q : ρ → τ → Prop) (μ : σ → Nat)
    (h : ∀ s,I s → (∃ s',L1 s=some (.inl s') ∧ L2 s=some (.inl s') ∧ I s' ∧ μ s' < μ s) ∨ (∃ a b,L1 s=some (.inr a) ∧ L2 s=some (.inr b) ∧ Q a b)) {s : σ} (h0 : I s) : ∃ a b,Kp L1 s=some a ∧ Kp L2 s=some b ∧ Q a b:=by
  have key : ∀ n s,μ s < n → I s → ∃ a b,Kp L1 s=some a ∧ Kp L2 s=some b ∧ Q a b:=by
    intro n
    induction n with
    | zero=>intro s hs;omega
    | succ n ih=>
      intro s hs hI
      rcases h s hI with ⟨s',h1,h2,h3,h4⟩ | ⟨a,b,h1,h2,h3⟩
      · obtain⟨a,b,k1,k2,k3⟩:=ih s' (by omega) h3;exact⟨a,b,(Vw h1).trans k1,(Vw h2).trans k2,k3⟩
      · exact⟨a,b,Yz h1,Yz h2,h3⟩
  exact key _ s (Nat.lt_succ_self _) h0
end
theorem cEnd : (ErrM.v Zrd).code=13:=by decide
theorem cBase : (ErrM.v Znn).code=10:=by decide
def mkS (s : GState) : GState:=⟨s.Id,s.Frame,IntKind.i64.wrap (s.Epoch + 1),s.Procs,s.Ready,s.Timers,s.Up,s.Sems,s.Ports,s.Pages.map Zgm⟩
def zS : GState:=⟨0,0,0,[],[],[],[],[],[],[]⟩
theorem Zn9 {p : GPlan} {s : GState} (ok : OkS s) : Uz p s=some (if atE p s=.nil then (if s.Epoch=2147483647 then (zS,.v Zrd) else (mkS s,.nil)) else (zS,atE p s)):=by
  have h1:=Zoy (p:=p) ok
  by_cases e : atE p s=.nil
  · by_cases m : s.Epoch=2147483647
    · simp only [Uz,h1,e,m,zS,decide_true,Bool.not_true,cond_false,cond_true,Option.bind_some,if_true]
    · simp only [Uz,h1,e,m,mkS,Ze6 ok,Zp5 _ ok.f,decide_true,decide_false,Bool.not_true,cond_false,Option.bind_some,if_true,if_false]
  · simp only [Uz,h1,e,zS,decide_false,Bool.not_false,cond_true,Option.bind_some,if_false]
def Znb (s : GState) : GState:=⟨s.Id,s.Frame,s.Epoch,s.Procs,s.Ready,s.Timers,s.Up,s.Sems,s.Ports,[]⟩
def pgAl (x y : GPage) : Bool:=decide (x.Rights=y.Rights) && decide (x.Data=y.Data)
def Zr8 (a b : GState) : Bool:=decide (a.Id=b.Id) && (decide (a.Frame=b.Frame) && (decide (a.Procs=b.Procs) && (decide (a.Ready=b.Ready) && (decide (a.Timers=b.Timers) && (decide (a.Up=b.Up) && (decide (a.Sems=b.Sems) && decide (a.Ports=b.Ports)))))))
def Zo2 (a b : GState) : Bool:=Zr8 a b && (decide (a.Pages.length=b.Pages.length) && (a.Pages.zip b.Pages).all fun p=>pgAl p.1 p.2)
theorem Zoa (a b : List GProc) : Yn a b=some (decide (a=b)):=by
  by_cases hl : a.length=b.length
  · have h:=Zga (L:=Jx a b) hl (fun i x y hi hx hy=>by
      simp only [Jx,hi,hx,hy,decide_true,cond_true,Option.bind_some]
      by_cases e : x=y <;> simp [e]) (by simp [Jx])
    simp only [Yn,hl,decide_true,Bool.not_true,cond_false,h,Option.bind_some]
    by_cases e : a=b <;> simp [e]
  · simp only [Yn,hl,decide_false,Bool.not_false,cond_true,Zhu hl]
theorem Zm4 (a b : List GTimer) : Yb a b=some (decide (a=b)):=by
  by_cases hl : a.length=b.length
  · have h:=Zga (L:=Jn a b) hl (fun i x y hi hx hy=>by
      simp only [Jn,hi,hx,hy,decide_true,cond_true,Option.bind_some]
      by_cases e : x=y <;> simp [e]) (by simp [Jn])
    simp only [Yb,hl,decide_true,Bool.not_true,cond_false,h,Option.bind_some]
    by_cases e : a=b <;> simp [e]
  · simp only [Yb,hl,decide_false,Bool.not_false,cond_true,Zhu hl]
theorem Zl1 (a b : List ByteArray) : Km a b=some (decide (a=b)):=by
  by_cases hl : a.length=b.length
  · have h:=Zga (L:=Jb a b) hl (fun i x y hi hx hy=>by
      simp only [Jb,hi,hx,hy,decide_true,cond_true,Option.bind_some]
      by_cases e : x=y <;> simp [e]) (by simp [Jb])
    simp only [Km,hl,decide_true,Bool.not_true,cond_false,h,Option.bind_some]
    by_cases e : a=b <;> simp [e]
  · simp only [Km,hl,decide_false,Bool.not_false,cond_true,Zhu hl]
theorem Zob (a b : List Bool) : Yo a b=some (decide (a=b)):=by
  by_cases hl : a.length=b.length
  · have h:=Zga (L:=Jy a b) hl (fun i x y hi hx hy=>by
      simp only [Jy,hi,hx,hy,decide_true,cond_true,Option.bind_some];cases x <;> cases y <;> simp) (by simp [Jy])
    simp only [Yo,hl,decide_true,Bool.not_true,cond_false,h,Option.bind_some]
    by_cases e : a=b <;> simp [e]
  · simp only [Yo,hl,decide_false,Bool.not_false,cond_true,Zhu hl]
theorem Ztg {x y : GPort} : x=y ↔ x.Age=y.Age ∧ x.Msgs=y.Msgs:=by
  cases x;cases y;simp only [GPort.mk.injEq];exact And.comm
theorem Zoc (a b : List GPort) : Jo a b (fun x0 x1=>Vq x0 x1)=some (decide (a=b)):=by
  by_cases hl : a.length=b.length
  · have h:=Zga (L:=Xo a b (fun x0 x1=>Vq x0 x1)) hl (fun i x y hi hx hy=>by
      simp only [Xo,Vq,Zl1,hi,hx,hy,decide_true,cond_true,Option.bind_some]
      by_cases e1 : x.Age=y.Age
      · by_cases e2 : x.Msgs=y.Msgs
        · have : x=y:=Ztg.2 ⟨e1,e2⟩;simp [e1,e2,this]
        · have : ¬ x=y:=fun h=>e2 (by rw [h])
          simp [e1,e2,this]
      · have : ¬ x=y:=fun h=>e1 (by rw [h])
        simp [e1,this]) (by simp [Xo])
    simp only [Jo,hl,decide_true,Bool.not_true,cond_false,h,Option.bind_some]
    by_cases e : a=b <;> simp [e]
  · simp only [Jo,hl,decide_false,Bool.not_false,cond_true,Zhu hl]
theorem Zf5 (a b : GState) : Zaq a b=some (Zr8 a b):=by
  simp only [Zaq,Zoa,Zpq,Zm4,Zob,Zoc,Option.bind_some];unfold Zr8
  by_cases h1 : a.Id=b.Id <;> by_cases h2 : a.Frame=b.Frame <;> by_cases h3 : a.Procs=b.Procs <;> by_cases h4 : a.Ready=b.Ready <;> by_cases h5 : a.Timers=b.Timers <;> by_cases h6 : a.Up=b.Up <;> by_cases h7 : a.Sems=b.Sems <;> simp only [h1,h2,h3,h4,h5,h6,h7,decide_true,decide_false,cond_true,cond_false,Bool.true_and,Bool.false_and]
theorem Zm5 (a b : GState) : Gj a b=some (Zo2 a b):=by
  unfold Zo2
  by_cases hr : Zr8 a b=true
  · by_cases hl : a.Pages.length=b.Pages.length
    · have h:=Zmr (L:=Xp a.Pages b.Pages (fun x0 x1=>Uh x0 x1)) pgAl hl (fun i x y hi hx hy=>by
        simp only [Xp,Uh,pgAl,hi,hx,hy,decide_true,cond_true,Option.bind_some]
        by_cases e1 : x.Rights=y.Rights <;> by_cases e2 : x.Data=y.Data <;> simp [e1,e2]) (by simp [Xp])
      simp only [Gj,Kw,Zf5,hr,hl,h,decide_true,Bool.not_true,cond_true,cond_false,Option.bind_some,Bool.true_and];cases (a.Pages.zip b.Pages).all fun p=>pgAl p.1 p.2 <;> rfl
    · simp only [Gj,Kw,Zf5,hr,hl,decide_false,Bool.not_false,cond_true,Option.bind_some,Bool.true_and,Bool.false_and]
  · have hr : Zr8 a b=false:=Bool.eq_false_iff.2 hr;simp only [Gj,Zf5,hr,cond_false,Option.bind_some,Bool.false_and]
theorem Zm6 (a b : GState) : Zar a b=some (Zo2 a b):=by simp only [Zar,Zm5,Option.bind_some]
def smP : GPlan:=⟨0,false,[⟨3,⟨#[]⟩⟩,⟨3,⟨#[]⟩⟩,⟨3,⟨#[]⟩⟩],[⟨0,0,false⟩],[],0,[]⟩
def smD : Vector UInt8 64:=(cpyV (Vector.replicate 64 0) (⟨#[]⟩ : ByteArray)).setIfInBounds ((0 : Int).toNat) (Za9 2)
def smS : GState:=⟨0,9,4,(Zf3 smP).Procs,(Zf3 smP).Ready,[],[],[],[],[Zf2 ⟨3,⟨#[]⟩⟩,⟨3,true,smD⟩,Zf2 ⟨3,⟨#[]⟩⟩]⟩
def smB : GState:=⟨0,0,4,(Zf3 smP).Procs,(Zf3 smP).Ready,[],[],[],[],[Zf2 ⟨3,⟨#[]⟩⟩,Zf2 ⟨3,⟨#[]⟩⟩,Zf2 ⟨3,⟨#[]⟩⟩]⟩
theorem Zr9 : Zdr smP=.nil:=by decide +kernel
theorem Zva : Zas=some (smP,smS):=by
  have h:=Zox Zr9;have e : Zf3 smP=⟨0,0,0,(Zf3 smP).Procs,(Zf3 smP).Ready,[],[],[],[],[Zf2 ⟨3,⟨#[]⟩⟩,Zf2 ⟨3,⟨#[]⟩⟩,Zf2 ⟨3,⟨#[]⟩⟩]⟩:=rfl;unfold Zas;rw [show (⟨0,false,[(⟨3,⟨#[]⟩⟩ : GPagePlan),(⟨3,⟨#[]⟩⟩ : GPagePlan),(⟨3,⟨#[]⟩⟩ : GPagePlan)],[(⟨0,0,false⟩ : GProcPlan)],([] : List GPortPlan),0,([] : List Int)⟩ : GPlan)=smP from rfl,h]
  decide +kernel
theorem Zo3 {s : GState} (h : s.Procs.length ≤ 9 ∧ s.Ready.length ≤ 9 ∧ s.Timers.length ≤ 9 ∧ s.Up.length ≤ 9 ∧ s.Sems.length ≤ 9 ∧ s.Pages.length ≤ 9 ∧ s.Ports=[]) : OkS s:=by
  obtain⟨h1,h2,h3,h4,h5,h6,h7⟩:=h;exact⟨by omega,by omega,by omega,by omega,by omega,by omega,by rw [h7];decide,by rw [h7];intro x hx;cases hx⟩
theorem Zod : OkS smS:=Zo3 (by decide +kernel)
theorem Zvb : OkS smB:=Zo3 (by decide +kernel)
theorem okSmM : OkS (mkS smS):=Zo3 (by decide +kernel)
theorem okSmR : OkS (Znb smS):=Zo3 (by decide +kernel)
theorem Zvc : atE smP smS=.nil:=by decide +kernel
theorem atSmB : atE smP smB=.nil:=by decide +kernel
theorem atSmM : atE smP (mkS smS)=.nil:=by decide +kernel
theorem markSm : Uz smP smS=some (mkS smS,.nil):=by
  rw [Zn9 Zod,Zvc,if_pos rfl,if_neg (by decide +kernel)]
theorem Zvd : Zao smP smS=some ([1],.nil):=by
  have h1:=Zoy (p:=smP) Zod;rw [Zvc] at h1;have h2 : Zl3 GPage.Dirty 0 smS.Pages=[1]:=by decide +kernel
  simp only [Zao,h1,Zf4 _ Zod.f,h2,decide_true,Bool.not_true,cond_false,Option.bind_some]
theorem Zm7 : Vm smB.Pages=some []:=by
  rw [Zf4 _ Zvb.f];decide +kernel
theorem Zve : Zap smP smB smS=some (true,.nil):=by
  have h1:=check2 (p:=smP) Zvb Zod;rw [atSmB,Zvc,show orE ErrM.nil ErrM.nil=ErrM.nil from rfl] at h1;have l0 : Ye smB smS 0=some (.inl 1):=by decide +kernel
  have l1 : Ye smB smS 1=some (.inl 2):=by decide +kernel
  have l2 : Ye smB smS 2=some (.inl 3):=by decide +kernel
  have l3 : Ye smB smS 3=some (.inr (.inl ())):=by decide +kernel
  have hl : Kp (Ye smB smS) 0=some (.inl ()):=(Vw l0).trans ((Vw l1).trans ((Vw l2).trans (Yz l3)));have he : smB.Epoch=smS.Epoch:=rfl;have h0 : ¬ (0 < ([] : List Int).length):=by decide
  simp only [Zap,Tp,h1,Zm7,h0,he,hl,decide_true,decide_false,Bool.not_true,cond_false,Option.bind_some]
theorem laySm : Ku smP smB (Znb smS) [1] [⟨3,false,smD⟩]=some (mkS smS,.nil):=by
  have h1:=Zoy (p:=smP) Zvb;rw [atSmB] at h1;have he : (Znb smS).Epoch=smB.Epoch:=rfl;have hm : ¬ (Znb smS).Epoch=2147483647:=by decide +kernel
  have h0 : ¬ (0 < ([] : List Int).length):=by decide
  have f0 : Xn smP [1] [⟨3,false,smD⟩] (-1,0)=some (.inl (1,1)):=by decide +kernel
  have f1 : Xn smP [1] [⟨3,false,smD⟩] (1,1)=some (.inr (.inl ())):=by decide +kernel
  have hf : Ge smP (Znb smS) [1] [⟨3,false,smD⟩]=some true:=by
    have : Kp (Xn smP [1] [⟨3,false,smD⟩]) (-1,0)=some (.inl ()):=(Vw f0).trans (Yz f1);have c : ((!decide (([1] : List Int).length=([⟨3,false,smD⟩] : List GPage).length)) || decide (0 < (Znb smS).Pages.length))=false:=by decide +kernel
    simp only [Ge,c,this,cond_false,Option.bind_some]
  have g0 : Kq [1] [⟨3,false,smD⟩] (0,smB.Pages)=some (.inl (1,(mkS smS).Pages)):=by decide +kernel
  have g1 : Kq [1] [⟨3,false,smD⟩] (1,(mkS smS).Pages)=some (.inr (mkS smS).Pages):=by decide +kernel
  have hg : Kp (Kq [1] [⟨3,false,smD⟩]) (0,smB.Pages)=some (mkS smS).Pages:=(Vw g0).trans (Yz g1);have hr:=Zhv smP (mkS smS) okSmM.sm.1;rw [Zr3,if_neg (fun c=>c Zr9),(Zr5 atSmM).2] at hr;have hc : Gi smB.Pages=some smB.Pages:=by
    have c : (([] : List GPage).length + smB.Pages.length) * 80 ≤ 140737488355328:=by decide +kernel
    simp only [Gi,Jg,chk,c,if_true,List.nil_append,Option.bind_some]
  have hx : (⟨(Znb smS).Id,(Znb smS).Frame,IntKind.i64.wrap ((Znb smS).Epoch + 1),(Znb smS).Procs,(Znb smS).Ready,(Znb smS).Timers,(Znb smS).Up,(Znb smS).Sems,(Znb smS).Ports,(mkS smS).Pages⟩ : GState)=mkS smS:=rfl;simp only [Ku,Kr,h1,Zm7,h0,he.symm,hm,hf,Ze6 okSmR,hc,hg,hx,hr,decide_true,decide_false,Bool.not_true,cond_false,Option.bind_some]
theorem Zoe : Zat=some true:=by
  have c1 : (mkS smS).Epoch=5:=by decide +kernel
  have c2 : (mkS smS).Pages.length=3:=by decide +kernel
  have c3 : (mkS smS).Pages[1]? = some (⟨3,false,smD⟩ : GPage):=by decide +kernel
  have c4 : rdV smD 0=some (Za9 2):=by decide +kernel
  have c5 : ((Za9 2).toNat : Int)=2:=by decide
  have c6 : (mkS smS).Frame=9:=by decide +kernel
  have c7 : ([1] : List Int).length=1:=rfl;have c8 : ([1] : List Int)[0]? = some 1:=rfl;have c9 : Zo2 smS (mkS smS)=true:=by decide +kernel
  have d1 : smS.Pages[1]? = some (⟨3,true,smD⟩ : GPage):=by decide +kernel
  have hb : (⟨(Zf3 smP).Id,(Zf3 smP).Frame,4,(Zf3 smP).Procs,(Zf3 smP).Ready,(Zf3 smP).Timers,(Zf3 smP).Up,(Zf3 smP).Sems,(Zf3 smP).Ports,(Zf3 smP).Pages⟩ : GState)=smB:=rfl;have hq : (⟨(mkS smS).Id,9,5,(mkS smS).Procs,(mkS smS).Ready,(mkS smS).Timers,(mkS smS).Up,(mkS smS).Sems,(mkS smS).Ports,(mkS smS).Pages⟩ : GState)=mkS smS:=rfl;have hz : (⟨smS.Id,smS.Frame,smS.Epoch,smS.Procs,smS.Ready,smS.Timers,smS.Up,smS.Sems,smS.Ports,[]⟩ : GState)=Znb smS:=rfl;simp only [Zat,Zva,Zdt Zod,markSm,Ts,c1,c2,c3,c4,c5,c6,decide_true,Bool.not_true,cond_false,Option.bind_some];simp only [Tr,Zdt Zod,Zvd,c7,c8,hq,Zm6,c9,decide_true,Bool.not_true,cond_false,Option.bind_some];simp only [Tq,Zox Zr9,hb,Zve,Zdt Zod,d1,hz,laySm,hq,Zhj,decide_true,Bool.not_true,cond_false,cond_true,Option.bind_some]
theorem Zsa {e : ErrM} (hp : e.place=-1) : Zag e e.code=some true:=same17 rfl hp
end Go.Proofs.YtjekfpnpfllaoaaGreatDoor
set_option linter.unusedVariables false
set_option linter.unusedSimpArgs false
set_option linter.unusedSectionVars false
namespace Go.Proofs.YtjekfpnpfllaoaaGreatDoor
open Go Go.RowKit
section
variable {σ₁ σ₂ ρ τ : Type}
theorem Zth {L1 : σ₁ → Option (σ₁ ⊕ ρ)} {L2 : σ₂ → Option (σ₂ ⊕ τ)} (I : σ₁ → σ₂ → Prop) (Q : ρ → τ → Prop) (μ : σ₂ → Nat)
    (h : ∀ s t,I s t → (∃ s' t',L1 s=some (.inl s') ∧ L2 t=some (.inl t') ∧ I s' t' ∧ μ t' < μ t) ∨ (∃ a b,L1 s=some (.inr a) ∧ L2 t=some (.inr b) ∧ Q a b)) {s : σ₁} {t : σ₂} (h0 : I s t) : ∃ a b,Kp L1 s=some a ∧ Kp L2 t=some b ∧ Q a b:=by
  have key : ∀ n s t,μ t < n → I s t → ∃ a b,Kp L1 s=some a ∧ Kp L2 t=some b ∧ Q a b:=by
    intro n
    induction n with
    | zero=>intro s t hs;omega
    | succ n ih=>
      intro s t hs hI
      rcases h s t hI with ⟨s',t',h1,h2,h3,h4⟩ | ⟨a,b,h1,h2,h3⟩
      · obtain⟨a,b,k1,k2,k3⟩:=ih s' t' (by omega) h3;exact⟨a,b,(Vw h1).trans k1,(Vw h2).trans k2,k3⟩
      · exact⟨a,b,Yz h1,Yz h2,h3⟩
  exact key _ s t (Nat.lt_succ_self _) h0
end
def FitG (p : GPlan) (n : Int) (g : GPage) : Prop:=∃ z,rdI p.Pages n=some z ∧ g.Dirty=false ∧ g.Rights=z.Rights
theorem Zsb (p : GPlan) (r : GState) (idx : List Int) (pgs : List GPage) (hz : idx.length ≤ 140737488355328) :
    ∃ v,Ge p r idx pgs=some v ∧ Zbd p r idx pgs=some v ∧ (v=true → idx.length=pgs.length ∧ ∀ (k : Nat) n g,idx[k]? = some n → pgs[k]? = some g → FitG p n g):=by
  by_cases hc : ((!decide (idx.length=pgs.length)) || decide (0 < r.Pages.length))=true
  · exact⟨false,by simp only [Ge,hc,cond_true],by simp only [Zbd,hc,cond_true],fun h=>by cases h⟩
  · have hc : ((!decide (idx.length=pgs.length)) || decide (0 < r.Pages.length))=false:=Bool.eq_false_iff.2 hc;have hl : idx.length=pgs.length:=by
      simp only [Bool.or_eq_false_iff,Bool.not_eq_false',decide_eq_true_eq] at hc;exact hc.1
    obtain⟨a,b,k1,k2,k3⟩:=Zth (L1:=Xn p idx pgs) (L2:=Ys p idx pgs)
      (fun s i=>s.2=i ∧ i ≤ idx.length ∧ (i=0 → s.1=-1) ∧ (0 < i → idx[i - 1]? = some s.1 ∧ 0 ≤ s.1) ∧ ∀ (k : Nat) n g,k < i → idx[k]? = some n → pgs[k]? = some g → FitG p n g)
      (fun a b=>(a=.inl () ∧ b=.inl () ∧ ∀ (k : Nat) n g,idx[k]? = some n → pgs[k]? = some g → FitG p n g) ∨ (a=.inr false ∧ b=.inr false)) (fun i=>idx.length - i) (fun s i hI=>by
      obtain⟨z,j⟩:=s;obtain⟨h1,h2,h3,h4,h5⟩:=hI;simp only at h1 h2 h3 h4 h5;subst h1
      by_cases hlt : j < idx.length
      · have hx : idx[j]? = some idx[j]:=List.getElem?_eq_getElem hlt;have hy : pgs[j]? = some (pgs[j]'(by omega)):=List.getElem?_eq_getElem _
        generalize idx[j]=x at hx
        generalize pgs[j]=y at hy
        have hzl : z ≤ x ∨ x ≤ z:=by omega
        have hnum : (((bif decide (x < 0) then some true else (bif decide (((p.Pages.length : Nat) : Int) ≤ x) then some true else (bif decide (0 < j) then (rdI idx (IntKind.i64.wrap (((j : Nat) : Int) - 1))).bind fun x543=>some (decide (x ≤ x543)) else some false)))) : Option Bool)=some (decide (x ≤ z) || decide (((p.Pages.length : Nat) : Int) ≤ x)):=by
          by_cases h0 : j=0
          · have hz1:=h3 h0;subst h0;have e1 : decide (x < 0)=decide (x ≤ z):=by rw [hz1];exact decide_eq_decide.2 (by omega)
            rw [e1]
            by_cases c1 : x ≤ z <;> by_cases c2 : ((p.Pages.length : Nat) : Int) ≤ x <;> simp [c1,c2]
          · obtain⟨g1,g2⟩:=h4 (by omega);have hw : IntKind.i64.wrap (((j : Nat) : Int) - 1)=((j - 1 : Nat) : Int):=by rw [Vb (by constructor <;> omega)];omega
            have hj : 0 < j:=by omega
            rw [hw,Zum,g1]
            by_cases c0 : x < 0
            · have c1 : x ≤ z:=by omega
              simp [c0,c1]
            · by_cases c1 : x ≤ z <;> by_cases c2 : ((p.Pages.length : Nat) : Int) ≤ x <;> simp [c0,c1,c2,hj]
        by_cases c : (decide (x ≤ z) || decide (((p.Pages.length : Nat) : Int) ≤ x))=true
        · refine .inr ⟨.inr false,.inr false,?_,?_,.inr ⟨rfl,rfl⟩⟩
          · have : x ≤ z ∨ ((p.Pages.length : Nat) : Int) ≤ x:=by simpa using c
            by_cases c1 : x ≤ z
            · simp only [Xn,Yv,hlt,hx,c1,decide_true,cond_true,Option.bind_some]
            · have c2 : ((p.Pages.length : Nat) : Int) ≤ x:=by omega
              simp only [Xn,Yv,hlt,hx,c1,c2,decide_true,decide_false,cond_true,cond_false,Option.bind_some]
          · simp only [Ys,hlt,hx,decide_true,cond_true,Option.bind_some];rw [hnum,c];simp only [Wt,Option.bind_some,cond_true]
        · have c' : (decide (x ≤ z) || decide (((p.Pages.length : Nat) : Int) ≤ x))=false:=Bool.eq_false_iff.2 c;have c1 : ¬ x ≤ z:=by simp at c;omega
          have c2 : ¬ ((p.Pages.length : Nat) : Int) ≤ x:=by simp at c;omega
          have hx0 : 0 ≤ x:=by
            by_cases h0 : j=0
            · have:=h3 h0;omega
            · have:=(h4 (by omega)).2;omega
          have hr : ∃ w,rdI p.Pages x=some w:=by
            unfold rdI;rw [if_pos hx0];exact⟨_,List.getElem?_eq_getElem (show x.toNat < p.Pages.length by omega)⟩
          obtain⟨w,hr⟩:=hr
          rcases Bool.eq_false_or_eq_true y.Dirty with d|d
          · refine .inr ⟨.inr false,.inr false,?_,?_,.inr ⟨rfl,rfl⟩⟩
            · simp only [Xn,Yv,hlt,hx,hy,c1,c2,d,decide_true,decide_false,cond_true,cond_false,Option.bind_some]
            · simp only [Ys,hlt,hx,decide_true,cond_true,Option.bind_some];rw [hnum,c'];simp only [Wt,Hl,hy,d,Option.bind_some,cond_true,cond_false]
          · by_cases q : y.Rights=w.Rights
            · refine .inl ⟨(x,j + 1),j + 1,?_,?_,⟨rfl,by omega,fun h=>by omega,fun _=>⟨by simpa using hx,hx0⟩,fun k n g hk hn hg=>?_⟩,by omega⟩
              · simp only [Xn,Yv,hlt,hx,hy,hr,c1,c2,d,q,decide_true,decide_false,Bool.not_true,cond_true,cond_false,Option.bind_some]
              · simp only [Ys,hlt,hx,decide_true,cond_true,Option.bind_some];rw [hnum,c'];simp only [Wt,Hl,hy,hr,d,q,decide_true,Bool.not_true,Option.bind_some,cond_true,cond_false]
              · rcases Nat.lt_or_ge k j with hk2 | hk2
                · exact h5 k n g hk2 hn hg
                · obtain rfl : k=j:=by omega
                  rw [hx] at hn;rw [hy] at hg;cases hn;cases hg
                  exact⟨w,hr,d,q⟩
            · refine .inr ⟨.inr false,.inr false,?_,?_,.inr ⟨rfl,rfl⟩⟩
              · simp only [Xn,Yv,hlt,hx,hy,hr,c1,c2,d,q,decide_true,decide_false,Bool.not_false,cond_true,cond_false,Option.bind_some]
              · simp only [Ys,hlt,hx,decide_true,cond_true,Option.bind_some];rw [hnum,c'];simp only [Wt,Hl,hy,hr,d,q,decide_false,Bool.not_false,Option.bind_some,cond_true,cond_false]
      · obtain rfl : j=idx.length:=by omega
        exact .inr ⟨.inl (),.inl (),by simp only [Xn,hlt,decide_false,cond_false],by simp only [Ys,hlt,decide_false,cond_false],.inl ⟨rfl,rfl,fun k n g hn hg=>h5 k n g (List.getElem?_eq_some_iff.1 hn).1 hn hg⟩⟩)
      (s:=(-1,0)) (t:=0) ⟨rfl,Nat.zero_le _,fun _=>rfl,fun h=>by omega,fun k _ _ hk=>by omega⟩
    rcases k3 with ⟨rfl,rfl,k4⟩ | ⟨rfl,rfl⟩
    · exact⟨true,by simp only [Ge,hc,k1,cond_false,Option.bind_some],by simp only [Zbd,hc,k2,cond_false,Option.bind_some],fun _=>⟨hl,k4⟩⟩
    · exact⟨false,by simp only [Ge,hc,k1,cond_false,Option.bind_some],by simp only [Zbd,hc,k2,cond_false,Option.bind_some],fun h=>by cases h⟩
theorem Zm8 {α : Type} {q : α → Bool} : ∀ {l : List α} {k : Nat},¬ 0 < (Zl3 q k l).length → ∀ x ∈ l,q x=false
  | [],_,_,x,hx=>by cases hx
  | y :: r,k,h,x,hx=>by
    rw [Zl3,List.length_append] at h
    rcases List.mem_cons.1 hx with rfl|hx
    · rcases Bool.eq_false_or_eq_true (q x) with e | e
      · rw [if_pos e] at h;simp at h
      · exact e
    · exact Zm8 (k:=k + 1) (by omega) x hx
def OnP (p : GPlan) (l : List GPage) : Prop:=l.length=p.Pages.length ∧ ∀ (j : Nat) y,l[j]? = some y → y.Dirty=false ∧ ∃ z,p.Pages[j]? = some z ∧ y.Rights=z.Rights
theorem Zti {p : GPlan} {b : GState} (h : atE p b=.nil) (hd : ¬ 0 < (Zl3 GPage.Dirty 0 b.Pages).length) : OnP p b.Pages:=by
  have hl:=Zkv h;refine⟨hl,fun j y hy=>⟨Zm8 hd y (List.mem_of_getElem? hy),?_⟩⟩;have hj : j < p.Pages.length:=by rw [← hl];exact (List.getElem?_eq_some_iff.1 hy).1
  have hz : p.Pages[j]? = some p.Pages[j]:=List.getElem?_eq_getElem hj;refine⟨_,hz,?_⟩;have hk:=(Zm2 h).2;unfold K13 at hk;rw [List.all_eq_true] at hk;have hm : (p.Pages[j],y) ∈ p.Pages.zip b.Pages:=by
    apply List.mem_of_getElem? (i:=j);rw [List.getElem?_zip_eq_some];exact⟨hz,hy⟩
  have:=hk _ hm;simp only [decide_eq_true_eq] at this;exact this.symm
theorem Zsc {p : GPlan} {idx : List Int} {pgs : List GPage} (hl : idx.length=pgs.length) (hf : ∀ (k : Nat) n g,idx[k]? = some n → pgs[k]? = some g → FitG p n g) {l0 : List GPage} (h0 : OnP p l0) :
    ∃ l,Kp (Kq idx pgs) (0,l0)=some l ∧ Kp (Hq idx pgs) (0,l0)=some l ∧ OnP p l:=by
  obtain⟨a,b,k1,k2,rfl,k4⟩:=Ztf (L1:=Kq idx pgs) (L2:=Hq idx pgs) (fun t=>t.1 ≤ idx.length ∧ OnP p t.2) (fun a b=>a=b ∧ OnP p a) (fun t=>idx.length - t.1) (fun t hI=>by
    obtain⟨i,l⟩:=t;obtain⟨hi,hp⟩:=hI;simp only at hi hp
    by_cases hlt : i < idx.length
    · have hx : idx[i]? = some idx[i]:=List.getElem?_eq_getElem hlt;have hy : pgs[i]? = some (pgs[i]'(by omega)):=List.getElem?_eq_getElem _
      generalize idx[i]=n at hx
      generalize pgs[i]=g at hy
      obtain⟨z,hz,d,q⟩:=hf i n g hx hy;obtain⟨n0,n1,hz'⟩:=Qq hz;have hj : n.toNat < l.length:=by rw [hp.1];omega
      have hv : l[n.toNat]? = some l[n.toNat]:=List.getElem?_eq_getElem hj
      generalize l[n.toNat]=y at hv
      have hr : rdI l n=some y:=by unfold rdI;rw [if_pos n0];exact hv
      obtain⟨yd,z2,hz2,yr⟩:=hp.2 _ _ hv;rw [hz'] at hz2;obtain rfl:=Option.some.inj hz2;have he : (⟨y.Rights,y.Dirty,g.Data⟩ : GPage)=g:=by rw [yd,yr,← q,← d]
      refine .inl ⟨(i + 1,l.set n.toNat g),?_,?_,⟨by simp only;omega,?_,fun j u hu=>?_⟩,by simp only;omega⟩
      · simp only [Kq,hlt,hx,hy,hr,decide_true,cond_true,Option.bind_some]
      · simp only [Hq,hlt,hx,hy,hr,he,decide_true,cond_true,Option.bind_some]
      · simp only [List.length_set];exact hp.1
      · simp only at hu
        by_cases e : n.toNat=j
        · subst e;rw [List.getElem?_set_self hj] at hu;cases hu
          exact⟨d,z,hz',q⟩
        · rw [List.getElem?_set_ne e] at hu;exact hp.2 j u hu
    · refine .inr ⟨l,l,?_,?_,rfl,hp⟩
      · simp only [Kq,hlt,decide_false,cond_false]
      · simp only [Hq,hlt,decide_false,cond_false]) (s:=(0,l0)) ⟨Nat.zero_le _,h0⟩
  exact⟨a,k1,k2,k4⟩
theorem Zsd {p : GPlan} {s : GState} (ok : OkS s) : Zaf p s=some ((Zhh p s 17).code,(Zhh p s 17).place):=by
  simp only [Zaf,Zm1 p s ok.sm,Option.bind_some]
theorem lays (p : GPlan) {b r : GState} {idx : List Int} {pgs : List GPage} (okb : OkS b) (okr : OkS r) (hi : idx.length * 8 ≤ 140737488355328) : ∃ x e,Ku p b r idx pgs=some (x,e) ∧ Hr p b r idx pgs=some (x,e.code) ∧ e.place=-1:=by
  have h1:=Zoy (p:=p) okb;have h2:=r17_at (p:=p) okb;have w1:=Zf4 _ okb.f;have w2:=Zr7 b okb.f
  by_cases e1 : atE p b=.nil
  · have c1 : (atE p b).code=0:=Zoz.2 e1
    by_cases d : 0 < (Zl3 GPage.Dirty 0 b.Pages).length
    · exact⟨zS,.v Znn,by simp only [Ku,Kr,h1,e1,w1,d,zS,decide_true,Bool.not_true,cond_true,cond_false,Option.bind_some],by simp only [Hr,Wl,h2,c1,w2,d,zS,cBase,decide_true,Bool.not_true,cond_true,cond_false,Option.bind_some],rfl⟩
    · by_cases q : r.Epoch=b.Epoch
      · by_cases m : r.Epoch=2147483647
        · exact⟨zS,.v Zrd,by simp only [Ku,Kr,h1,e1,w1,d,q,q ▸ m,zS,decide_true,decide_false,Bool.not_true,cond_true,cond_false,Option.bind_some],by simp only [Hr,Wl,h2,c1,w2,d,q,q ▸ m,zS,cEnd,decide_true,decide_false,Bool.not_true,cond_true,cond_false,Option.bind_some],rfl⟩
        · have m' : ¬ b.Epoch=2147483647:=q ▸ m;obtain⟨v,f1,f2,f3⟩:=Zsb p r idx pgs (by omega)
          rcases Bool.eq_false_or_eq_true v with rfl|rfl
          · obtain⟨hl,hf⟩:=f3 rfl;obtain⟨l,k1,k2,k3⟩:=Zsc hl hf (Zti e1 d);have hbf:=okb.f;have hc : Gi b.Pages=some b.Pages:=by
              have c : (([] : List GPage).length + b.Pages.length) * 80 ≤ 140737488355328:=by simp only [List.length_nil];omega
              simp only [Gi,Jg,chk,c,if_true,List.nil_append,Option.bind_some]
            have c : (([] : List GPage).length + b.Pages.length) * 80 ≤ 140737488355328:=by simp only [List.length_nil];omega
            have hll : l.length=b.Pages.length:=by rw [k3.1,Zkv e1]
            have oks : OkS (⟨r.Id,r.Frame,IntKind.i64.wrap (r.Epoch + 1),r.Procs,r.Ready,r.Timers,r.Up,r.Sems,r.Ports,l⟩ : GState):=by
              obtain⟨a1,a2,a3,a4,a5,a6,a7,a8⟩:=okr;exact⟨a1,a2,a3,a4,a5,by simp only;omega,a7,a8⟩
            have r1:=Zhv p _ oks.sm.1;have r2:=Zsd (p:=p) oks
            by_cases z : Zhh p (⟨r.Id,r.Frame,IntKind.i64.wrap (r.Epoch + 1),r.Procs,r.Ready,r.Timers,r.Up,r.Sems,r.Ports,l⟩ : GState) 17=.nil
            · have z0:=Zem.2 z;refine⟨(⟨r.Id,r.Frame,IntKind.i64.wrap (r.Epoch + 1),r.Procs,r.Ready,r.Timers,r.Up,r.Sems,r.Ports,l⟩ : GState),.nil,?_,?_,rfl⟩
              · simp only [Ku,Kr,h1,e1,w1,d,q.symm,m,f1,Ze6 okr,hc,k1,r1,z,decide_true,decide_false,Bool.not_true,cond_true,cond_false,Option.bind_some]
              · simp only [Hr,Wl,h2,c1,w2,d,q.symm,m,f2,Zdt okr,chk,c,if_true,List.nil_append,k2,r2,z0,Zu9,decide_true,decide_false,Bool.not_true,cond_true,cond_false,Option.bind_some]
            · have z0 : ¬ (Zhh p (⟨r.Id,r.Frame,IntKind.i64.wrap (r.Epoch + 1),r.Procs,r.Ready,r.Timers,r.Up,r.Sems,r.Ports,l⟩ : GState) 17).code=0:=fun h=>z (Zem.1 h)
              refine⟨zS,.v Uy,?_,?_,rfl⟩
              · simp only [Ku,Kr,h1,e1,w1,d,q.symm,m,f1,Ze6 okr,hc,k1,r1,z,zS,decide_true,decide_false,Bool.not_true,Bool.not_false,cond_true,cond_false,Option.bind_some]
              · simp only [Hr,Wl,h2,c1,w2,d,q.symm,m,f2,Zdt okr,chk,c,if_true,List.nil_append,k2,r2,z0,Zl0,zS,decide_true,decide_false,Bool.not_true,Bool.not_false,cond_true,cond_false,Option.bind_some]
          · exact⟨zS,.v gArg,by simp only [Ku,Kr,h1,e1,w1,d,q.symm,m,f1,zS,decide_true,decide_false,Bool.not_true,Bool.not_false,cond_true,cond_false,Option.bind_some],by simp only [Hr,Wl,h2,c1,w2,d,q.symm,m,f2,zS,cArg,decide_true,decide_false,Bool.not_true,Bool.not_false,cond_true,cond_false,Option.bind_some],rfl⟩
      · exact⟨zS,.v Znn,by simp only [Ku,Kr,h1,e1,w1,d,q,zS,decide_true,decide_false,Bool.not_true,Bool.not_false,cond_true,cond_false,Option.bind_some],by simp only [Hr,Wl,h2,c1,w2,d,q,zS,cBase,decide_true,decide_false,Bool.not_true,Bool.not_false,cond_true,cond_false,Option.bind_some],rfl⟩
  · have c1 : ¬ (atE p b).code=0:=fun h=>e1 (Zoz.1 h)
    exact⟨zS,atE p b,by simp only [Ku,h1,e1,zS,decide_false,Bool.not_false,cond_true,Option.bind_some],by simp only [Hr,h2,c1,zS,decide_false,Bool.not_false,cond_true,Option.bind_some],Zr4⟩
theorem Zjm (x : GL17Case) (hP : Znw x.P) (okB : OkS x.B) (okR : OkS x.Rest) (hi : x.Index.length * 8 ≤ 140737488355328) (hg : x.Pages.length * 80 ≤ 140737488355328) : Tb x=some true:=by
  obtain⟨s,e,a1,b1,p1⟩:=lays x.P (pgs:=x.Pages) okB okR hi;have c1 : (([] : List Int).length + x.Index.length) * 8 ≤ 140737488355328:=by simp only [List.length_nil];omega
  have c2 : (([] : List GPage).length + x.Pages.length) * 80 ≤ 140737488355328:=by simp only [List.length_nil];omega
  simp only [Tb,Zoe,Zrq x.P hP,Zdt okB,Zdt okR,chk,c1,c2,if_true,List.nil_append,a1,b1,Zsa p1,Zhj,Bool.not_true,cond_true,cond_false,Option.bind_some]
end Go.Proofs.YtjekfpnpfllaoaaGreatDoor
