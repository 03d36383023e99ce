/- Part of a claim, shortened by a program from its texts: PlanLPt, WireLPt, CurLPt, PlanKPt, SeeLPt, SameKPt, CrcLPt, ReadLPt, RuleFPt. -/
import Derived.Test.YtfemfiiagjnhdaaGreatDoorQfD
set_option linter.unusedVariables false
set_option linter.unusedSimpArgs false
set_option linter.unusedSectionVars false
namespace Go.Proofs.YtfemfiiagjnhdaaGreatDoor
open Go Go.RowKit
section
variable {α ε σ ρ : Type}
def Yq (f : Nat → α → Option ε) : Nat → List α → Option ε
  | _,[]=>none
  | k,x :: r=>match f k x with
    | some e=>some e
    | none=>Yq f (k + 1) r
def fin (o : Option ε) : Unit ⊕ ε:=match o with
  | none=>.inl ()
  | some e=>.inr e
def nxt (s : σ) (o : Option ε) : σ ⊕ (Unit ⊕ ε):=match o with
  | none=>.inl s
  | some e=>.inr (.inr e)
theorem Zd8 (s : σ) (e : ε) : nxt s (some e)=.inr (.inr e):=rfl
theorem Zc6 (s : σ) : nxt s (none : Option ε)=.inl s:=rfl
theorem Zf7 (s : σ) (c : Prop) [Decidable c] (a b : Option ε) : nxt s (if c then a else b)=if c then nxt s a else nxt s b:=by split <;> rfl
theorem Zas {L : Nat → Option (Nat ⊕ (Unit ⊕ ε))} {l : List α} {f : Nat → α → Option ε}
    (h : ∀ i x,i < l.length → l[i]? = some x → L i=some (nxt (i + 1) (f i x))) (h2 : L l.length=some (.inr (.inl ()))) :
    Gk L 0=some (fin (Yq f 0 l)):=by
  have key : ∀ m k,k + m=l.length → Gk L k=some (fin (Yq f k (l.drop k))):=by
    intro m
    induction m with
    | zero=>
      intro k hk
      obtain rfl : k=l.length:=by omega
      rw [Yr h2,List.drop_length];rfl
    | succ m ih=>
      intro k hk
      have hlt : k < l.length:=by omega
      have hx : l[k]? = some l[k]:=List.getElem?_eq_getElem hlt
      have hd : l.drop k=l[k] :: l.drop (k + 1):=List.drop_eq_getElem_cons hlt
      have hs:=h k _ hlt hx
      rw [hd]
      cases hf : f k l[k] with
      | none=>rw [hf] at hs;rw [Ks hs,ih (k + 1) (by omega),Yq,hf]
      | some e=>rw [hf] at hs;rw [Yr hs,Yq,hf];rfl
  simpa using key l.length 0 (by omega)
theorem Zlf {L : σ × Nat → Option ((σ × Nat) ⊕ σ)} {l : List α} {g : σ → α → σ} {I : σ → Nat → Prop} {z : σ} (h0 : I z 0)
    (h : ∀ i x z,i < l.length → l[i]? = some x → I z i → L (z,i)=some (.inl (g z x,i + 1)) ∧ I (g z x) (i + 1)) (h2 : ∀ z,I z l.length → L (z,l.length)=some (.inr z)) :
    Gk L (z,0)=some (l.foldl g z) ∧ I (l.foldl g z) l.length:=by
  have key : ∀ m k z,k + m=l.length → I z k → Gk L (z,k)=some ((l.drop k).foldl g z) ∧ I ((l.drop k).foldl g z) l.length:=by
    intro m
    induction m with
    | zero=>
      intro k z hk hI
      obtain rfl : k=l.length:=by omega
      rw [Yr (h2 z hI),List.drop_length];exact⟨rfl,hI⟩
    | succ m ih=>
      intro k z hk hI
      have hlt : k < l.length:=by omega
      have hx : l[k]? = some l[k]:=List.getElem?_eq_getElem hlt
      have hd : l.drop k=l[k] :: l.drop (k + 1):=List.drop_eq_getElem_cons hlt
      have hs:=h k _ z hlt hx hI
      rw [hd,Ks hs.1,List.foldl_cons]
      exact ih (k + 1) _ (by omega) hs.2
  simpa using key l.length 0 z (by omega) h0
end
def Zh0 (p : GPortPlan) : ErrM:=
  if p.Kind < 1 ∨ 4 < p.Kind then .v Zju
  else if p.Size < 1 ∨ 32 < p.Size then .v Za7
  else if p.Depth < 1 ∨ (if 3 ≤ p.Kind then 8 else 1) < p.Depth ∨ p.Refresh < 0 ∨ (if p.Kind=1 then 255 else 0) < p.Refresh then .v Vn
  else .nil
theorem Zes (p : GPortPlan) : Ua p=some (Zh0 p):=by
  have hk : (p.Kind < 1 ∨ 4 < p.Kind) ∨ p.Kind=1 ∨ p.Kind=2 ∨ p.Kind=3 ∨ p.Kind=4:=by omega
  rcases hk with h|h|h|h|h
  all_goals
    unfold Ua Gd Gc Gb Zaf Zcw Ti Zh0
    first
    | (have h1 : ¬ p.Kind=1 := by omega
       have h2 : ¬ p.Kind=2:=by omega
       have h3 : ¬ p.Kind=3:=by omega
       have h4 : ¬ p.Kind=4:=by omega
       simp [h1,h2,h3,h4,h])
    | (simp [h,Bool.cond_eq_ite];repeat' split
       all_goals first | rfl | omega | simp_all)
def Zmz (i : Nat) (x : GPagePlan) : Option ErrM:=if x.Rights < 0 ∨ 7 < x.Rights then some (.pl i Vn) else if 64 < x.Init.size then some (.pl i Ur) else none
def orN (o : Option ErrM) : ErrM:=o.getD .nil
def Zlg (p : GPlan) : ErrM:=if p.Pages.length < 1 ∨ 32 < p.Pages.length then .v Za7 else orN (Yq Zmz 0 p.Pages)
theorem Zm0 (i : Int) (g : Nat) : Zam i (.v g)=some (.pl i g):=rfl
theorem Zop (p : GPlan) : Us p=some (Zlg p):=by
  have h:=Zas (L:=Kx p) (l:=p.Pages) (f:=Zmz) (fun i x hi hx=>by
    simp only [Kx,hi,hx,decide_true,cond_true,Option.bind_some,Zm0,Bool.cond_eq_ite,Bool.or_eq_true,decide_eq_true_eq,Zmz,Zf7,Zd8,Zc6]
    repeat' split
    all_goals first | rfl | (simp_all;done) | omega) (by simp [Kx])
  simp only [Us,h,Zlg,Option.bind_some,Bool.cond_eq_ite,Bool.or_eq_true,decide_eq_true_eq]
  cases Yq Zmz 0 p.Pages <;> (split <;> rfl)
def Zip (n : Nat) (i : Nat) (x : GProcPlan) : Option ErrM:=if x.Entry < 0 ∨ IntKind.i64.wrap (64 * (n : Int)) ≤ x.Entry ∨ Int.tmod x.Entry 4 ≠ 0 ∨ x.Prio < 0 ∨ 255 < x.Prio then some (.pl i Vn) else none
def Zlh (p : GPlan) : ErrM:=if p.Procs.length < 1 ∨ 8 < p.Procs.length then .v Za7 else orN (Yq (Zip p.Pages.length) 0 p.Procs)
theorem Zoq (p : GPlan) : Ut p=some (Zlh p):=by
  have h:=Zas (L:=Ky p) (l:=p.Procs) (f:=Zip p.Pages.length) (fun i x hi hx=>by
    simp only [Ky,Ul,hi,hx,decide_true,cond_true,Option.bind_some,Zm0,Bool.cond_eq_ite,decide_eq_true_eq,Zip,Zf7,Zd8,Zc6,Bool.not_eq_true',decide_eq_false_iff_not]
    repeat' split
    all_goals first | rfl | omega | (simp_all;done) | (simp_all;omega)) (by simp [Ky])
  simp only [Ut,h,Zlh,Option.bind_some,Bool.cond_eq_ite,Bool.or_eq_true,decide_eq_true_eq]
  cases Yq (Zip p.Pages.length) 0 p.Procs <;> (split <;> rfl)
def Zb0 (i : Nat) (x : GPortPlan) : Option ErrM:=match Zh0 x with
  | .v g=>some (.pl i g)
  | _=>none
theorem Zc7 (x : GPortPlan) : Zh0 x=.nil ∨ ∃ g,Zh0 x=.v g:=by
  unfold Zh0
  repeat' split
  all_goals first | exact .inl rfl | exact .inr ⟨_,rfl⟩
def Zn1 (p : GPlan) : ErrM:=if 8 < p.Ports.length then .v Za7 else orN (Yq Zb0 0 p.Ports)
def Zn2 (i : Nat) (x : Int) : Option ErrM:=if x < 0 ∨ 255 < x then some (.pl i Vn) else none
def Zj8 (p : GPlan) : ErrM:=if p.Events < 0 ∨ 8 < p.Events then .v Vn else if 8 < p.Sems.length then .v Za7 else orN (Yq Zn2 0 p.Sems)
def Zcb (x : GPortPlan) : Int:=if Zh0 x ≠ .nil then 0 else if x.Kind=2 ∨ x.Kind=4 then 2 else IntKind.i64.wrap (2 + IntKind.i64.wrap (x.Depth * IntKind.i64.wrap (1 + x.Size)))
def Zfp (p : GPlan) : Int:=p.Ports.foldl (fun z x=>IntKind.i64.wrap (z + IntKind.i64.wrap (3 + Zcb x))) (IntKind.i64.wrap ((IntKind.i64.wrap ((IntKind.i64.wrap ((IntKind.i64.wrap (58 + (IntKind.i64.wrap (76 * ((p.Procs.length : Nat) : Int))))) + (IntKind.i64.wrap (68 * ((p.Pages.length : Nat) : Int))))) + p.Events)) + ((p.Sems.length : Nat) : Int)))
theorem Zp8 (x : GPortPlan) : ∃ e,Zbj x=some (Zcb x,e):=by
  simp only [Zbj,Zes,Option.bind_some,Zcb,Ti,Bool.cond_eq_ite,Bool.not_eq_true',decide_eq_false_iff_not,Bool.or_eq_true,decide_eq_true_eq]
  repeat' split
  all_goals first | exact⟨_,rfl⟩ | (simp_all;done)
theorem Zja (p : GPlan) : Tj p=some (Zfp p):=by
  have h:=Zlf (L:=Uu p) (l:=p.Ports) (g:=fun z x=>IntKind.i64.wrap (z + IntKind.i64.wrap (3 + Zcb x))) (I:=fun _ _=>True)
    (z:=IntKind.i64.wrap ((IntKind.i64.wrap ((IntKind.i64.wrap ((IntKind.i64.wrap (58 + (IntKind.i64.wrap (76 * ((p.Procs.length : Nat) : Int))))) + (IntKind.i64.wrap (68 * ((p.Pages.length : Nat) : Int))))) + p.Events)) + ((p.Sems.length : Nat) : Int))) trivial
    (fun i x z hi hx _=>⟨by
      obtain⟨e,he⟩:=Zp8 x
      simp only [Uu,hi,hx,decide_true,cond_true,Option.bind_some,he],trivial⟩) (fun z _=>by simp [Uu])
  simp only [Tj,h.1,Option.bind_some,Zfp]
def orE (a b : ErrM) : ErrM:=if a=.nil then b else a
def Zp9 (p : GPlan) : ErrM:=orE (Zn1 p) (orE (Zj8 p) (if 4096 < Zfp p then .v Za7 else .nil))
theorem Zqa (p : GPlan) : Gn p=some (Zp9 p):=by
  have h2:=Zas (L:=Yi p) (l:=p.Ports) (f:=Zb0) (fun i x hi hx=>by
    simp only [Yi,hi,hx,decide_true,cond_true,Option.bind_some,Zes,Zb0]
    rcases Zc7 x with h | ⟨g,h⟩
    · rw [h];rfl
    · rw [h];rfl) (by simp [Yi])
  have h1:=Zas (L:=Yh p) (l:=p.Sems) (f:=Zn2) (fun i x hi hx=>by
    simp only [Yh,hi,hx,decide_true,cond_true,Option.bind_some,Zm0,Bool.cond_eq_ite,Bool.or_eq_true,decide_eq_true_eq,Zn2,Zf7,Zd8,Zc6,if_true]
    split <;> rfl) (by simp [Yh])
  simp only [Gn,h1,h2,Zja,Option.bind_some,Bool.cond_eq_ite,Bool.or_eq_true,decide_eq_true_eq,Zp9,Zn1,Zj8]
  have hp : ∀ e,Yq Zb0 0 p.Ports=some e → e ≠ .nil:=by
    have key : ∀ (l : List GPortPlan) k e,Yq Zb0 k l=some e → e ≠ .nil:=by
      intro l
      induction l with
      | nil=>intro k e h;cases h
      | cons x r ih=>
        intro k e h
        rcases Zc7 x with hs | ⟨g,hs⟩
        · simp only [Yq,Zb0,hs] at h;exact ih _ _ h
        · simp only [Yq,Zb0,hs,Option.some.injEq] at h;subst h;intro h;cases h
    exact key _ _
  have hq : ∀ e,Yq Zn2 0 p.Sems=some e → e ≠ .nil:=by
    have key : ∀ (l : List Int) k e,Yq Zn2 k l=some e → e ≠ .nil:=by
      intro l
      induction l with
      | nil=>intro k e h;cases h
      | cons x r ih=>
        intro k e h
        by_cases hs : x < 0 ∨ 255 < x
        · simp only [Yq,Zn2,if_pos hs,Option.some.injEq] at h;subst h;intro h;cases h
        · simp only [Yq,Zn2,if_neg hs] at h;exact ih _ _ h
    exact key _ _
  by_cases c1 : 8 < p.Ports.length
  · simp only [c1,if_true,orE];rfl
  simp only [c1,if_false]
  cases h3 : Yq Zb0 0 p.Ports with
  | some e=>
    have:=hp e h3
    simp only [fin,orN,Option.getD_some,orE,this,if_false]
  | none=>
    simp only [fin,orN,Option.getD_none,orE,if_true]
    by_cases c2 : p.Events < 0 ∨ 8 < p.Events
    · simp only [c2,if_true];rfl
    simp only [c2,if_false]
    by_cases c3 : 8 < p.Sems.length
    · simp only [c3,if_true];rfl
    simp only [c3,if_false]
    cases h4 : Yq Zn2 0 p.Sems with
    | some e=>
      have:=hq e h4
      simp only [fin,orN,Option.getD_some,this,if_false]
    | none=>
      simp only [fin,orN,Option.getD_none,if_true]
      split <;> rfl
def Zba (p : GPlan) : ErrM:=if p.Id < 0 ∨ 2147483647 < p.Id then .v Vn else orE (Zlg p) (orE (Zlh p) (Zp9 p))
theorem Hs (p : GPlan) : Uc p=some (Zba p):=by
  simp only [Uc,Zop,Zoq,Zqa,Option.bind_some,Bool.cond_eq_ite,Bool.or_eq_true,decide_eq_true_eq,Zba,Bool.not_eq_true',decide_eq_false_iff_not,orE]
  repeat' split
  all_goals first | rfl | (simp_all;done)
end Go.Proofs.YtfemfiiagjnhdaaGreatDoor
set_option linter.unusedVariables false
set_option linter.unusedSimpArgs false
set_option linter.unusedSectionVars false
namespace Go.Proofs.YtfemfiiagjnhdaaGreatDoor
open Go Go.RowKit
abbrev wr (b : List UInt8) : GWireWriter:=⟨b,.nil⟩
theorem Zn3 (a b : List UInt8) (h : a.length + b.length ≤ 100000000) : Xw (wr a) b=some (wr (a ++ b)):=by
  have hc : (a.length + b.length) * 1 ≤ 140737488355328:=by omega
  simp only [Xw,decide_true,cond_true,chk,hc,if_true]
def be (n : Int) : Nat → List UInt8
  | 0=>[]
  | k + 1=>Qz (shR .i64 n (((8 * k : Nat) : Int))) :: be n k
theorem Vq (n : Int) : ∀ k,(be n k).length=k
  | 0=>rfl
  | k + 1=>by rw [be,List.length_cons,Vq n k]
theorem Zn4 (n : Int) : ∀ (k : Nat) (a : List UInt8),k ≤ 4 → a.length + k ≤ 1000000 → Gk (Jp n) (((k : Nat) : Int) - 1,a,.nil)=some (a ++ be n k,.nil)
  | 0,a,_,_=>by
    have h : ¬ (0 : Int) ≤ ((0 : Nat) : Int) - 1:=by omega
    rw [be,List.append_nil]
    exact Yr (by simp only [Jp,h,decide_false,cond_false])
  | k + 1,a,hk,ha=>by
    have e0 : ((k + 1 : Nat) : Int) - 1=(k : Int):=by omega
    have e1 : (0 : Int) ≤ (k : Int):=by omega
    have e2 : IntKind.i64.wrap (8 * (k : Int))=((8 * k : Nat) : Int):=by rw [Qo ⟨by omega,by omega⟩];omega
    have e3 : (0 : Int) ≤ ((8 * k : Nat) : Int):=by omega
    have e4 : IntKind.i64.wrap ((k : Int) - 1)=(k : Int) - 1:=Qo ⟨by omega,by omega⟩
    have hp:=Zn3 a [Qz (shR .i64 n ((8 * k : Nat) : Int))] (by simp;omega)
    have hs : Jp n ((k : Int),a,.nil)=some (.inl ((k : Int) - 1,a ++ [Qz (shR .i64 n ((8 * k : Nat) : Int))],.nil)):=by
      simp only [Jp,e1,e2,e3,e4,hp,decide_true,cond_true,chk,if_true,Option.bind_some]
    rw [e0,Ks hs,Zn4 n k _ (by omega) (by simp;omega),be,List.append_assoc,List.singleton_append]
theorem Zru : Yj 1=some 255:=by
  have h : (0 : Int) ≤ IntKind.i64.wrap (8 * 1):=by decide
  simp only [Yj,chk,h,if_true];rfl
theorem most2 : Yj 2=some 65535:=by
  have h : (0 : Int) ≤ IntKind.i64.wrap (8 * 2):=by decide
  simp only [Yj,chk,h,if_true];rfl
theorem most4 : Yj 4=some 4294967295:=by
  have h : (0 : Int) ≤ IntKind.i64.wrap (8 * 4):=by decide
  simp only [Yj,chk,h,if_true];rfl
theorem Zli {n m : Int} {k : Nat} (hm : Yj (k : Int)=some m) (a : List UInt8) (hk : k ≤ 4) (ha : a.length ≤ 900000) (h0 : 0 ≤ n) (h1 : n ≤ m) : Qs (wr a) n (k : Int)=some (wr (a ++ be n k)):=by
  have e1 : ¬ n < 0:=by omega
  have e2 : ¬ m < n:=by omega
  have e3 : IntKind.i64.wrap ((k : Int) - 1)=(k : Int) - 1:=Qo ⟨by omega,by omega⟩
  simp only [Qs,Um,hm,e1,e2,e3,Zn4 n k a hk (by omega),decide_false,cond_false,Option.bind_some]
def Zh1 (z : Int) : Int:=if Zdl .u32 z 1=1 then Zci .u32 (shR .u32 z 1) 3988292384 else shR .u32 z 1
theorem Zrv (z : Int) : Zcm z=some (Zh1 z):=by
  unfold Zcm Zh1
  by_cases h : Zdl .u32 z 1=1 <;> simp [h]
def Zt8 (z : Int) : Int:=Zh1 (Zh1 (Zh1 (Zh1 (Zh1 (Zh1 (Zh1 (Zh1 z)))))))
theorem Zt9 (z : Int) : Gk Uh (z,0)=some (Zt8 z):=by
  have hs : ∀ z (i : Nat),i < 8 → Uh (z,i)=some (.inl (Zh1 z,i + 1)):=fun z i h=>by
    simp only [Uh,h,Zrv,decide_true,cond_true,Option.bind_some]
  rw [Ks (hs _ 0 (by omega)),Ks (hs _ 1 (by omega)),Ks (hs _ 2 (by omega)),Ks (hs _ 3 (by omega)),Ks (hs _ 4 (by omega)),Ks (hs _ 5 (by omega)),Ks (hs _ 6 (by omega)),Ks (hs _ 7 (by omega))]
  exact Yr (by simp [Uh];rfl)
def Zm1 (k : Nat) : Vector Int 256:=Vector.ofFn fun j : Fin 256=>if j.val < k then Zt8 (IntKind.u32.wrap (j.val : Int)) else 0
theorem Zlj (k i : Nat) (h : i < 256) : (Zm1 k)[i]=if i < k then Zt8 (IntKind.u32.wrap (i : Int)) else 0:=by simp [Zm1]
theorem Zqb : Zbk=some (Zm1 256):=by
  have key : ∀ (m k : Nat) (y : Vector Int 256),k + m=256 → (∀ (j : Nat) (h : j < 256),j < k → y[j]=Zt8 (IntKind.u32.wrap (j : Int))) → Gk Ui (k,y)=some (Zm1 256):=by
    intro m
    induction m with
    | zero=>
      intro k y hk hy
      obtain rfl : k=256:=by omega
      have e : y=Zm1 256:=by
        apply Vector.ext
        intro i hi
        rw [hy i hi hi,Zlj _ _ hi,if_pos hi]
      rw [e]
      exact Yr (by simp [Ui])
    | succ m ih=>
      intro k y hk hy
      have hlt : k < 256:=by omega
      have hr : rdV y (k : Int)=some y[k]:=by rw [Zpq];simp [hlt]
      have hs : Ui (k,y)=some (.inl (k + 1,y.setIfInBounds k (Zt8 (IntKind.u32.wrap (k : Int))))):=by
        simp only [Ui,hlt,Zt9,hr,decide_true,cond_true,Option.bind_some,Int.toNat_natCast]
      rw [Ks hs]
      refine ih (k + 1) _ (by omega) fun j h hj=>?_
      rw [Vector.getElem_setIfInBounds h]
      by_cases e : k=j
      · subst e;simp
      · rw [if_neg e];exact hy j h (by omega)
  unfold Zbk
  rw [key 256 0 _ rfl (fun j h hj=>absurd hj (Nat.not_lt_zero _))]
  rfl
def Zrw (z : Int) (c : UInt8) : Int:=Zci .u32 (Zt8 (IntKind.u32.wrap (Zci .u8 (IntKind.u8.wrap z) (c.toNat : Int)))) (shR .u32 z 8)
theorem xor8 (a b : Int) : 0 ≤ Zci .u8 a b ∧ Zci .u8 a b < 256:=by
  unfold Zci
  generalize ((BitVec.ofInt IntKind.u8.bits a ^^^ BitVec.ofInt IntKind.u8.bits b).toNat : Int)=z
  have h : IntKind.u8.wrap z=z % 256:=by simp [IntKind.wrap,IntKind.signed,IntKind.bits]
  rw [h];omega
theorem Zrx (z : Int) (b : List UInt8) : Zbd z b=some (b.foldl Zrw z):=by
  by_cases h : b.length=0
  · have : b=[]:=List.length_eq_zero_iff.1 h
    subst this
    simp [Zbd]
  have hL:=Zlf (L:=Hq b (Zm1 256)) (l:=b) (g:=Zrw) (I:=fun _ _=>True) (z:=z) trivial (fun i x z hi hx _=>⟨by
    obtain⟨h0,h1⟩:=xor8 (IntKind.u8.wrap z) (x.toNat : Int)
    have hr : rdV (Zm1 256) (Zci .u8 (IntKind.u8.wrap z) (x.toNat : Int))=some (Zt8 (IntKind.u32.wrap (Zci .u8 (IntKind.u8.wrap z) (x.toNat : Int)))):=by
      unfold rdV
      rw [if_pos h0]
      have hlt : (Zci .u8 (IntKind.u8.wrap z) (x.toNat : Int)).toNat < 256:=by omega
      rw [Vector.getElem?_eq_getElem hlt,Zlj _ _ hlt,if_pos hlt,Int.toNat_of_nonneg h0]
    simp only [Hq,hi,hx,hr,decide_true,cond_true,Option.bind_some,Zrw],trivial⟩) (fun z _=>by simp [Hq])
  simp only [Zbd,h,Zqb,hL.1,decide_false,cond_false,Option.bind_some]
def Zn5 (b : List UInt8) : Int:=Ztj .u32 (b.foldl Zrw (Ztj .u32 0))
theorem Zm2 (b : List UInt8) : Zcn b=some (Zn5 b):=by
  simp only [Zcn,Zd7,Zrx,Option.bind_some,Ztj];rfl
end Go.Proofs.YtfemfiiagjnhdaaGreatDoor
set_option linter.unusedVariables false
set_option linter.unusedSimpArgs false
set_option linter.unusedSectionVars false
namespace Go.Proofs.YtfemfiiagjnhdaaGreatDoor
open Go Go.RowKit
structure OkCur (c : GWireCursor) : Prop where
  a0 : 0 ≤ c.at_
  ab : c.at_ ≤ c.bound_
  bl : c.bound_ ≤ ((c.b_.length : Nat) : Int)
  sz : c.b_.length ≤ 140737488355328
theorem Qu (c : GWireCursor) : (⟨c.b_,c.at_,c.bound_⟩ : GWireCursor)=c:=rfl
def cut (b : List UInt8) (a n : Nat) : List UInt8:=(b.drop a).take n
theorem Zm3 {b : List UInt8} {a n : Nat} (h : a + n ≤ b.length) : (cut b a n).length=n:=by
  rw [cut,List.length_take,List.length_drop];omega
theorem Wd (c : GWireCursor) (h : OkCur c) : Qv c=some (c.bound_ - c.at_,c):=by
  obtain⟨h1,h2,h3,h4⟩:=h
  have e : IntKind.i64.wrap (c.bound_ - c.at_)=c.bound_ - c.at_:=Qo ⟨by omega,by omega⟩
  simp only [Qu,Qv,e]
theorem Zj9 (c : GWireCursor) (off w : Nat) (hw : w ≤ 4) (h : OkCur c) (ho : c.at_ + (off : Int) + (w : Int) ≤ ((c.b_.length : Nat) : Int)) :
    Xo c (off : Int) (w : Int)=some (Wy (cut c.b_ (c.at_.toNat + off) w),c):=by
  obtain⟨h1,h2,h3,h4⟩:=h
  have e1 : IntKind.i64.wrap (c.at_ + (off : Int))=c.at_ + (off : Int):=Qo ⟨by omega,by omega⟩
  have e2 : IntKind.i64.wrap (c.at_ + (off : Int) + (w : Int))=c.at_ + (off : Int) + (w : Int):=Qo ⟨by omega,by omega⟩
  have e3 : (c.at_ + (off : Int)).toNat=c.at_.toNat + off:=by omega
  have e4 : (c.at_ + (off : Int) + (w : Int)).toNat - (c.at_.toNat + off)=w:=by omega
  have hc : (c.b_.drop (c.at_.toNat + off)).take w=cut c.b_ (c.at_.toNat + off) w:=rfl
  have hl:=Zm3 (b:=c.b_) (a:=c.at_.toNat + off) (n:=w) (by omega)
  have hch : 0 ≤ c.at_ + (off : Int) ∧ c.at_ + (off : Int) ≤ c.at_ + (off : Int) + (w : Int) ∧ c.at_ + (off : Int) + (w : Int) ≤ ((c.b_.length : Nat) : Int):=⟨by omega,by omega,ho⟩
  have hL : Gk (Xp c (off : Int) (w : Int)) (0,0)=some (Wy (cut c.b_ (c.at_.toNat + off) w)):=by
    generalize hl0 : cut c.b_ (c.at_.toNat + off) w=l at *
    have key : ∀ m k,k + m=l.length → Gk (Xp c (off : Int) (w : Int)) (Wy (l.take k),k)=some (Wy l):=by
      intro m
      induction m with
      | zero=>
        intro k hk
        have e : l.take k=l:=List.take_of_length_le (by omega)
        rw [e]
        exact Yr (by simp only [Qu,Xp,e1,e2,e3,e4,hc,hl0,show ¬ k < l.length by omega,decide_false,cond_false])
      | succ m ih=>
        intro k hk
        have hlt : k < l.length:=by omega
        have hx : l[k]? = some l[k]:=List.getElem?_eq_getElem hlt
        obtain⟨b0,b1⟩:=Znw k (l.take k) (by rw [List.length_take];omega)
        have hk3 : k ≤ 3:=by omega
        have hb : Wy (l.take k) < 16777216:=by
          have : (256 : Int) ^ k ≤ 256 ^ 3:=by
            rcases (by omega : k=0 ∨ k=1 ∨ k=2 ∨ k=3) with rfl|rfl|rfl|rfl <;> decide
          have h3 : (256 : Int) ^ 3=16777216:=by decide
          omega
        have hcx:=(l[k]).toNat_lt
        have ho8:=or8 (z:=(8 : Int).toNat) b0 hb (x:=((l[k]).toNat : Int)) (by omega) (by omega) rfl
        have es : Wy (l.take (k + 1))=Wy (l.take k) * 256 + ((l[k]).toNat : Int):=by rw [List.take_add_one,hx];exact Zi2 _ _
        have hs : Xp c (off : Int) (w : Int) (Wy (l.take k),k)=some (.inl (Wy (l.take (k + 1)),k + 1)):=by
          simp only [Qu,Xp,e1,e2,e3,e4,hc,hl0,hlt,hx,decide_true,cond_true,Option.bind_some,es]
          exact congrArg (fun z=>some (Sum.inl (z,k + 1))) ho8
        rw [Ks hs]
        exact ih (k + 1) (by omega)
    have:=key l.length 0 (by omega)
    simpa [Wy] using this
  simp only [Qu,Xo,e1,e2,chk,hch,and_self,if_true,hL,Option.bind_some]
theorem Zgz (c : GWireCursor) (h : OkCur c) : Vc c=some (if c.bound_ - c.at_ < 3 then (0,0,.pl c.at_ Wz,c) else (Wy (cut c.b_ c.at_.toNat 1),Wy (cut c.b_ (c.at_.toNat + 1) 2),.nil,c)):=by
  have ha : Yu c.at_ (.v Wz)=some (.pl c.at_ Wz):=rfl
  by_cases hc : c.bound_ - c.at_ < 3
  · simp only [Qu,Vc,Wd c h,hc,ha,decide_true,cond_true,Option.bind_some,if_true]
  · have p1:=Zj9 c 0 1 (by omega) h (by have:=h.bl;omega)
    have p2:=Zj9 c 1 2 (by omega) h (by have:=h.bl;omega)
    rw [Nat.add_zero] at p1
    simp only [Qu,Vc,Wd c h,hc,decide_false,cond_false,Option.bind_some,if_false]
    rw [show Xo c 0 1=_ from p1]
    simp only [Option.bind_some]
    rw [show Xo c 1 2=_ from p2]
    rfl
theorem Zqc {b : List UInt8} (hb : b.length ≤ 2) : 0 ≤ Wy b ∧ Wy b ≤ 65535:=by
  obtain⟨h1,h2⟩:=Znw b.length b rfl
  have : (256 : Int) ^ b.length ≤ 256 ^ 2:=by
    rcases (by omega : b.length=0 ∨ b.length=1 ∨ b.length=2) with e|e|e <;> rw [e] <;> decide
  have h3 : (256 : Int) ^ 2=65536:=by decide
  omega
theorem Zlk (b : List UInt8) (a n : Nat) : (cut b a n).length ≤ n:=by rw [cut,List.length_take];omega
def Zat (c : GWireCursor) : Int × Option GWireCursor × ErrM × GWireCursor:=
  if c.bound_ - c.at_ < 3 then (0,none,.pl c.at_ Wz,c)
  else if Wy (cut c.b_ c.at_.toNat 1)=0 then (0,none,.pl c.at_ Zok,c)
  else if c.bound_ - c.at_ - 3 < Wy (cut c.b_ (c.at_.toNat + 1) 2) then (0,none,.pl (c.at_ + 1) Ur,c)
  else (Wy (cut c.b_ c.at_.toNat 1),some ⟨c.b_,c.at_ + 3,c.at_ + 3 + Wy (cut c.b_ (c.at_.toNat + 1) 2)⟩,.nil,⟨c.b_,c.at_ + 3 + Wy (cut c.b_ (c.at_.toNat + 1) 2),c.bound_⟩)
theorem Zqd (c : GWireCursor) (n : Int) (h : OkCur c) (h3 : 3 ≤ c.bound_ - c.at_) (n0 : 0 ≤ n) (n1 : n ≤ 65535) :
    Yo c n=some (if c.bound_ - c.at_ - 3 < n then (none,.pl (c.at_ + 1) Ur,c) else (some ⟨c.b_,c.at_ + 3,c.at_ + 3 + n⟩,.nil,⟨c.b_,c.at_ + 3 + n,c.bound_⟩)):=by
  have ok:=h
  obtain⟨k1,k2,k3,k4⟩:=h
  have w1 : IntKind.i64.wrap (c.bound_ - c.at_ - 3)=c.bound_ - c.at_ - 3:=Qo ⟨by omega,by omega⟩
  have w2 : IntKind.i64.wrap (c.at_ + 1)=c.at_ + 1:=Qo ⟨by omega,by omega⟩
  have w3 : IntKind.i64.wrap (c.at_ + 3)=c.at_ + 3:=Qo ⟨by omega,by omega⟩
  have w4 : IntKind.i64.wrap (c.at_ + 3 + n)=c.at_ + 3 + n:=Qo ⟨by omega,by omega⟩
  have ha : Yu (c.at_ + 1) (.v Ur)=some (.pl (c.at_ + 1) Ur):=rfl
  by_cases hc : c.bound_ - c.at_ - 3 < n
  · simp only [Qu,Yo,Wd c ok,w1,w2,hc,ha,decide_true,cond_true,Option.bind_some,if_true]
  · simp only [Qu,Yo,Wd c ok,w1,w3,w4,hc,decide_false,cond_false,Option.bind_some,if_false]
theorem Zn6 (c : GWireCursor) (h : OkCur c) : Js c=some (Zat c):=by
  have hg : Yu c.at_ (.v Zok)=some (.pl c.at_ Zok):=rfl
  unfold Zat
  by_cases hc : c.bound_ - c.at_ < 3
  · have : ¬ (ErrM.pl c.at_ Wz=ErrM.nil):=fun h=>by cases h
    simp only [Qu,Js,Zgz c h,hc,if_true,Option.bind_some,this,decide_false,Bool.not_false,cond_true]
  · have hn:=Zqc (Zlk c.b_ (c.at_.toNat + 1) 2)
    have he:=Zqd c (Wy (cut c.b_ (c.at_.toNat + 1) 2)) h (by omega) hn.1 hn.2
    by_cases ht : Wy (cut c.b_ c.at_.toNat 1)=0
    · simp only [Qu,Js,Zgz c h,hc,ht,hg,if_true,if_false,Option.bind_some,decide_true,Bool.not_true,cond_true,cond_false]
    · by_cases hl : c.bound_ - c.at_ - 3 < Wy (cut c.b_ (c.at_.toNat + 1) 2)
      · have : ¬ (ErrM.pl (c.at_ + 1) Ur=ErrM.nil):=fun h=>by cases h
        rw [if_pos hl] at he
        simp only [Qu,Js,Zgz c h,hc,ht,hl,he,this,if_true,if_false,Option.bind_some,decide_true,decide_false,Bool.not_true,Bool.not_false,cond_true,cond_false]
      · rw [if_neg hl] at he
        simp only [Qu,Js,Zgz c h,hc,ht,hl,he,if_false,Option.bind_some,decide_true,decide_false,Bool.not_true,cond_false]
theorem Zry {c : GWireCursor} (h : OkCur c) : OkCur (Zat c).2.2.2 ∧ (Zat c).2.2.2.b_=c.b_ ∧ (Zat c).2.2.2.bound_=c.bound_ ∧ (∀ d,(Zat c).2.1=some d → OkCur d ∧ d.b_=c.b_ ∧ c.at_ + 3=d.at_ ∧ d.bound_=(Zat c).2.2.2.at_) ∧ ((Zat c).2.2.1=.nil → ∃ d,(Zat c).2.1=some d):=by
  have ok:=h
  obtain⟨k1,k2,k3,k4⟩:=h
  have hn:=Zqc (Zlk c.b_ (c.at_.toNat + 1) 2)
  unfold Zat
  split
  · exact⟨ok,rfl,rfl,(fun d h=>by cases h),(fun h=>by cases h)⟩
  · split
    · exact⟨ok,rfl,rfl,(fun d h=>by cases h),(fun h=>by cases h)⟩
    · split
      · exact⟨ok,rfl,rfl,(fun d h=>by cases h),(fun h=>by cases h)⟩
      · refine⟨⟨by simp only;omega,by simp only;omega,k3,k4⟩,rfl,rfl,fun d hd=>?_,fun _=>⟨_,rfl⟩⟩
        cases hd
        exact⟨⟨by simp only;omega,by simp only;omega,by simp only;omega,k4⟩,rfl,rfl,rfl⟩
end Go.Proofs.YtfemfiiagjnhdaaGreatDoor
set_option linter.unusedVariables false
set_option linter.unusedSimpArgs false
set_option linter.unusedSectionVars false
namespace Go.Proofs.YtfemfiiagjnhdaaGreatDoor
open Go Go.RowKit
theorem Zqe {α : Type} {l : List α} {i : Nat} {x : α} (h : l[i]? = some x) : l.take (i + 1)=l.take i ++ [x]:=by rw [List.take_add_one,h];rfl
section
variable {σ ρ α : Type}
theorem Zjb {L : σ → Option (σ ⊕ ρ)} (I : σ → Prop) (Q : ρ → Prop) (μ : σ → Nat)
    (h : ∀ s,I s → (∃ s',L s=some (.inl s') ∧ I s' ∧ μ s' < μ s) ∨ (∃ r,L s=some (.inr r) ∧ Q r)) {s : σ} (h0 : I s) : ∃ r,Gk L s=some r ∧ Q r:=by
  have key : ∀ n s,μ s < n → I s → ∃ r,Gk L s=some r ∧ Q r:=by
    intro n
    induction n with
    | zero=>intro s hs;omega
    | succ n ih=>
      intro s hs hI
      rcases h s hI with ⟨s',h1,h2,h3⟩ | ⟨r,h1,h2⟩
      · obtain⟨r,h4,h5⟩:=ih s' (by omega) h2
        exact⟨r,(Ks h1).trans h4,h5⟩
      · exact⟨r,Yr h1,h2⟩
  exact key _ s (Nat.lt_succ_self _) h0
theorem Zdz {f : Nat → α → Option ErrM} (hf : ∀ i x,f i x ≠ some .nil) : ∀ {l : List α} {k : Nat},orN (Yq f k l)=.nil → ∀ i x,l[i]? = some x → f (k + i) x=none
  | [],_,_,i,x,hx=>by simp at hx
  | y :: r,k,h,i,x,hx=>by
    cases hy : f k y with
    | some e=>
      simp only [Yq,hy,orN,Option.getD_some] at h
      subst h;exact absurd hy (hf k y)
    | none=>
      simp only [Yq,hy] at h
      cases i with
      | zero=>
        have : y=x:=by simpa using hx
        subst this;exact hy
      | succ j=>
        have:=Zdz hf h j x (by simpa using hx)
        rwa [show k + 1 + j=k + (j + 1) by omega] at this
end
theorem Zg0 {a b : ErrM} (h : orE a b=.nil) : a=.nil ∧ b=.nil:=by
  unfold orE at h
  by_cases c : a=.nil
  · rw [if_pos c] at h;exact⟨c,h⟩
  · rw [if_neg c] at h;exact absurd h c
structure OkK (p : GPlan) : Prop where
  id0 : 0 ≤ p.Id
  id1 : p.Id ≤ 2147483647
  pg0 : 1 ≤ p.Pages.length
  pg1 : p.Pages.length ≤ 32
  pr0 : 1 ≤ p.Procs.length
  pr1 : p.Procs.length ≤ 8
  po1 : p.Ports.length ≤ 8
  ev0 : 0 ≤ p.Events
  ev1 : p.Events ≤ 8
  se1 : p.Sems.length ≤ 8
  pag : ∀ x ∈ p.Pages,0 ≤ x.Rights ∧ x.Rights ≤ 7 ∧ x.Init.size ≤ 64
  prio : ∀ x ∈ p.Procs,0 ≤ x.Prio ∧ x.Prio ≤ 255 ∧ 0 ≤ x.Entry ∧ x.Entry < 2048 ∧ x.Entry < 64 * (p.Pages.length : Int) ∧ Int.tmod x.Entry 4=0
  dep : ∀ x ∈ p.Ports,Zh0 x=.nil ∧ 1 ≤ x.Kind ∧ x.Kind ≤ 4 ∧ 1 ≤ x.Size ∧ x.Size ≤ 32 ∧ 1 ≤ x.Depth ∧ x.Depth ≤ 8 ∧ 0 ≤ x.Refresh ∧ x.Refresh ≤ 255
  bnd : Zfp p ≤ 4096
  sem : ∀ n ∈ p.Sems,0 ≤ n ∧ n ≤ 255
theorem Zll {p : GPlan} (h : Zba p=.nil) : OkK p:=by
  unfold Zba at h
  by_cases c0 : p.Id < 0 ∨ 2147483647 < p.Id
  · rw [if_pos c0] at h;cases h
  rw [if_neg c0] at h
  obtain⟨h1,h2⟩:=Zg0 h
  obtain⟨h2,h3⟩:=Zg0 h2
  unfold Zp9 at h3
  obtain⟨h3,h4⟩:=Zg0 h3
  obtain⟨h4,h5⟩:=Zg0 h4
  unfold Zlg at h1
  by_cases c1 : p.Pages.length < 1 ∨ 32 < p.Pages.length
  · rw [if_pos c1] at h1;cases h1
  rw [if_neg c1] at h1
  have c6 : ¬ 4096 < Zfp p:=fun h=>by rw [if_pos h] at h5;cases h5
  have hw : IntKind.i64.wrap (64 * (p.Pages.length : Int))=64 * (p.Pages.length : Int):=Qo ⟨by omega,by omega⟩
  unfold Zlh at h2
  by_cases c2 : p.Procs.length < 1 ∨ 8 < p.Procs.length
  · rw [if_pos c2] at h2;cases h2
  rw [if_neg c2] at h2
  unfold Zn1 at h3
  by_cases c3 : 8 < p.Ports.length
  · rw [if_pos c3] at h3;cases h3
  rw [if_neg c3] at h3
  unfold Zj8 at h4
  by_cases c4 : p.Events < 0 ∨ 8 < p.Events
  · rw [if_pos c4] at h4;cases h4
  rw [if_neg c4] at h4
  by_cases c5 : 8 < p.Sems.length
  · rw [if_pos c5] at h4;cases h4
  rw [if_neg c5] at h4
  refine⟨by omega,by omega,by omega,by omega,by omega,by omega,by omega,by omega,by omega,by omega,fun x hx=>?_,fun x hx=>?_,fun x hx=>?_,by omega,fun x hx=>?_⟩
  · obtain⟨i,hi⟩:=List.mem_iff_getElem?.1 hx
    have:=Zdz (f:=Zmz) (fun i x=>by unfold Zmz;(repeat' split) <;> intro h <;> cases h) h1 i x hi
    unfold Zmz at this
    repeat' split at this
    all_goals first | (cases this;done) | omega
  · obtain⟨i,hi⟩:=List.mem_iff_getElem?.1 hx
    have:=Zdz (f:=Zip p.Pages.length) (fun i x=>by unfold Zip;split <;> intro h <;> cases h) h2 i x hi
    unfold Zip at this
    rw [hw] at this
    split at this
    · cases this
    · omega
  · obtain⟨i,hi⟩:=List.mem_iff_getElem?.1 hx
    have:=Zdz (f:=Zb0) (fun i x=>by unfold Zb0;split <;> intro h <;> cases h) h3 i x hi
    unfold Zb0 at this
    rcases Zc7 x with e | ⟨g,e⟩
    · refine⟨e,?_⟩
      unfold Zh0 at e
      repeat' split at e
      all_goals first | (cases e;done) | omega
    · rw [e] at this;cases this
  · obtain⟨i,hi⟩:=List.mem_iff_getElem?.1 hx
    have:=Zdz (f:=Zn2) (fun i x=>by unfold Zn2;split <;> intro h <;> cases h) h4 i x hi
    unfold Zn2 at this
    split at this
    · cases this
    · omega
theorem Zlm {n : Int} (a : List UInt8) (ha : a.length ≤ 900000) (h0 : 0 ≤ n) (h1 : n ≤ 255) : Xj (wr a) n=some (wr (a ++ be n 1)):=by
  have h : Qs (wr a) n 1=some (wr (a ++ be n 1)):=Zli (k:=1) Zru a (by omega) ha h0 h1
  simp only [Xj,h,Option.bind_some]
theorem u16_wr {n : Int} (a : List UInt8) (ha : a.length ≤ 900000) (h0 : 0 ≤ n) (h1 : n ≤ 65535) : Uv (wr a) n=some (wr (a ++ be n 2)):=by
  have h : Qs (wr a) n 2=some (wr (a ++ be n 2)):=Zli (k:=2) most2 a (by omega) ha h0 h1
  simp only [Uv,h,Option.bind_some]
theorem Zqf {n : Int} (a : List UInt8) (ha : a.length ≤ 900000) (h0 : 0 ≤ n) (h1 : n ≤ 4294967295) : Yl (wr a) n=some (wr (a ++ be n 4)):=by
  have h : Qs (wr a) n 4=some (wr (a ++ be n 4)):=Zli (k:=4) most4 a (by omega) ha h0 h1
  simp only [Yl,h,Option.bind_some]
theorem Zqg (a b : List UInt8) (ha : a.length + b.length ≤ 100000000) : Yk (wr a) b=some (wr (a ++ b)):=by
  simp only [Yk,Zn3 a b ha,Option.bind_some]
def Zka (b : Bool) : List UInt8:=if b=true then [Qz 1] else [Qz 0]
theorem Zqh (a : List UInt8) (b : Bool) (ha : a.length ≤ 900000) : Va (wr a) b=some (wr (a ++ Zka b)):=by
  have h : ∀ c : UInt8,Xw (wr a) [c]=some (wr (a ++ [c])):=fun c=>Zn3 a [c] (by simp;omega)
  cases b <;> simp [Va,h,Zka]
theorem Zm4 (a : List UInt8) (ha : a.length ≤ 900000) : Kt (wr a)=some (a,.nil,wr a):=by
  have c : (([] : List UInt8).length + a.length) * 1 ≤ 140737488355328:=by simp;omega
  simp only [Kt,Xt,chk,c,if_true,Option.bind_some,decide_true,Bool.not_true,cond_false,List.nil_append]
def Zd9 (t : Int) (b : List UInt8) : List UInt8:=be t 1 ++ (be (b.length : Int) 2 ++ b)
theorem Zaj (t : Int) (b : List UInt8) : (Zd9 t b).length=3 + b.length:=by simp [Zd9,Vq];omega
theorem Zqi {t : Int} (a b : List UInt8) (ha : a.length ≤ 500000) (h0 : 1 ≤ t) (h1 : t ≤ 255) (hb : b.length ≤ 65535) : Vo (wr a) t b=some (wr (a ++ Zd9 t b)):=by
  have e1 : ¬ t < 1:=by omega
  have e2 : ¬ 255 < t:=by omega
  have e3 : ¬ 65535 < b.length:=by omega
  have n1 : Qs (wr a) t 1=some (wr (a ++ be t 1)):=Zli (k:=1) Zru a (by omega) (by omega) (by omega) h1
  have n2 : Qs (wr (a ++ be t 1)) (b.length : Int) 2=some (wr (a ++ be t 1 ++ be (b.length : Int) 2)):=Zli (k:=2) most2 _ (by omega) (by simp [Vq];omega) (by omega) (by omega)
  have n3:=Zn3 (a ++ be t 1 ++ be (b.length : Int) 2) b (by simp [Vq];omega)
  simp only [Vo,Vt,Zru,e1,e2,e3,n1,n2,n3,decide_false,cond_false,Option.bind_some]
  simp only [Zd9,List.append_assoc]
theorem Zcs {t : Int} {f : GWireWriter → Option GWireWriter} {b : List UInt8} (hf : f (wr [])=some (wr b)) (a : List UInt8) (ha : a.length ≤ 500000) (h0 : 1 ≤ t) (h1 : t ≤ 255) (hb : b.length ≤ 65535) : Vu (wr a) t f=some (wr (a ++ Zd9 t b)):=by
  have e : Yd=some (wr []):=rfl
  simp only [Vu,e,hf,Zm4 b (by omega),Zqi a b ha h0 h1 hb,Option.bind_some]
theorem Zg1 {α : Type} {L : Nat × List UInt8 × ErrM → Option ((Nat × List UInt8 × ErrM) ⊕ (List UInt8 × ErrM))} {l : List α} {f : α → List UInt8} (B M : Nat)
    (h : ∀ i x a,i < l.length → l[i]? = some x → a.length ≤ M → L (i,a,.nil)=some (.inl (i + 1,a ++ f x,.nil))) (h2 : ∀ a,L (l.length,a,.nil)=some (.inr (a,.nil)))
    (hB : ∀ x ∈ l,(f x).length ≤ B) (a : List UInt8) (ha : a.length + l.length * B ≤ M) : Gk L (0,a,.nil)=some (a ++ l.flatMap f,.nil):=by
  have key : ∀ m k a,k + m=l.length → a.length + m * B ≤ M → Gk L (k,a,.nil)=some (a ++ (l.drop k).flatMap f,.nil):=by
    intro m
    induction m with
    | zero=>
      intro k a hk _
      obtain rfl : k=l.length:=by omega
      rw [Yr (h2 a),List.drop_length];simp
    | succ m ih=>
      intro k a hk ha
      have hlt : k < l.length:=by omega
      have hx : l[k]? = some l[k]:=List.getElem?_eq_getElem hlt
      have hd : l.drop k=l[k] :: l.drop (k + 1):=List.drop_eq_getElem_cons hlt
      have hb:=hB l[k] (List.getElem_mem hlt)
      rw [Nat.succ_mul] at ha
      rw [Ks (h k _ a hlt hx (by omega)),ih (k + 1) _ (by omega) (by rw [List.length_append];omega),hd,List.flatMap_cons,List.append_assoc]
  simpa using key l.length 0 a (by omega) ha
def Zeh (x : GPagePlan) : List UInt8:=be x.Rights 1 ++ x.Init.data.toList
def Ze7 (x : GProcPlan) : List UInt8:=be x.Entry 4 ++ (be x.Prio 1 ++ Zka x.Auto)
def Zfq (x : GPortPlan) : List UInt8:=be x.Kind 1 ++ (be x.Size 1 ++ (be x.Depth 1 ++ be x.Refresh 1))
def Zln (x : Int) : List UInt8:=be x 1
def Za1 (p : GPlan) : List UInt8:=p.Pages.flatMap (fun x=>Zd9 1 (Zeh x)) ++ (p.Procs.flatMap (fun x=>Zd9 2 (Ze7 x)) ++ (p.Ports.flatMap (fun x=>Zd9 3 (Zfq x)) ++ (Zd9 4 (be p.Events 1) ++ Zd9 5 (p.Sems.flatMap Zln))))
theorem Zlo (b : Bool) : (Zka b).length=1:=by cases b <;> rfl
theorem Zfr (x : GPagePlan) : (Zeh x).length=1 + x.Init.size:=by
  have : x.Init.data.toList.length=x.Init.size:=rfl
  rw [Zeh,List.length_append,Vq,this]
theorem Zfs (x : GProcPlan) : (Ze7 x).length=6:=by simp [Ze7,Vq,Zlo]
theorem Zft (x : GPortPlan) : (Zfq x).length=4:=by simp [Zfq,Vq]
theorem Zak {α : Type} {f : α → List UInt8} {B : Nat} : ∀ {l : List α},(∀ x ∈ l,(f x).length ≤ B) → (l.flatMap f).length ≤ l.length * B
  | [],_=>by simp
  | x :: l,h=>by
    have h1:=h x (List.mem_cons_self ..)
    have h2:=Zak (l:=l) fun y hy=>h y (List.mem_cons_of_mem _ hy)
    rw [List.flatMap_cons,List.length_append,List.length_cons,Nat.succ_mul];omega
theorem Zrz (x : GPagePlan) (hx : 0 ≤ x.Rights ∧ x.Rights ≤ 7 ∧ x.Init.size ≤ 64) : Vh (wr []) x=some (wr (Zeh x)):=by
  obtain⟨h0,h1,h2⟩:=hx
  have c : x.Init.size ≤ 9223372036854775807:=by omega
  have e : x.Init.data.toList.length=x.Init.size:=rfl
  have u:=Zlm (n:=x.Rights) [] (by simp) h0 (by omega)
  have v:=Zqg ([] ++ be x.Rights 1) x.Init.data.toList (by simp [Vq];omega)
  simp only [Vh,u,v,chk,c,if_true,Option.bind_some]
  simp only [List.nil_append,Zeh]
theorem Zr0 (x : GProcPlan) (hx : 0 ≤ x.Prio ∧ x.Prio ≤ 255 ∧ 0 ≤ x.Entry ∧ x.Entry < 2048) : Vi (wr []) x=some (wr (Ze7 x)):=by
  obtain⟨h0,h1,h2,h3⟩:=hx
  have u:=Zqf (n:=x.Entry) [] (by simp) h2 (by omega)
  have v:=Zlm (n:=x.Prio) ([] ++ be x.Entry 4) (by simp [Vq]) h0 h1
  have z:=Zqh ([] ++ be x.Entry 4 ++ be x.Prio 1) x.Auto (by simp [Vq])
  simp only [Vi,u,v,z,Option.bind_some]
  simp only [List.nil_append,List.append_assoc,Ze7]
theorem Zr1 (x : GPortPlan) (hx : 1 ≤ x.Kind ∧ x.Kind ≤ 4 ∧ 1 ≤ x.Size ∧ x.Size ≤ 32 ∧ 1 ≤ x.Depth ∧ x.Depth ≤ 8 ∧ 0 ≤ x.Refresh ∧ x.Refresh ≤ 255) : Vj (wr []) x=some (wr (Zfq x)):=by
  have u1:=Zlm (n:=x.Kind) [] (by simp) (by omega) (by omega)
  have u2:=Zlm (n:=x.Size) ([] ++ be x.Kind 1) (by simp [Vq]) (by omega) (by omega)
  have u3:=Zlm (n:=x.Depth) ([] ++ be x.Kind 1 ++ be x.Size 1) (by simp [Vq]) (by omega) (by omega)
  have u4:=Zlm (n:=x.Refresh) ([] ++ be x.Kind 1 ++ be x.Size 1 ++ be x.Depth 1) (by simp [Vq]) (by omega) (by omega)
  simp only [Vj,u1,u2,u3,u4,Option.bind_some]
  simp only [List.nil_append,List.append_assoc,Zfq]
theorem Zlp {p : GPlan} (ok : OkK p) : Hx p=some (wr (Za1 p)):=by
  have e0 : Yd=some (wr []):=rfl
  have b1 : ∀ x ∈ p.Pages,(Zd9 1 (Zeh x)).length ≤ 68:=fun x hx=>by have:=ok.pag x hx;rw [Zaj,Zfr];omega
  have b2 : ∀ x ∈ p.Procs,(Zd9 2 (Ze7 x)).length ≤ 9:=fun x hx=>by rw [Zaj,Zfs];omega
  have b3 : ∀ x ∈ p.Ports,(Zd9 3 (Zfq x)).length ≤ 7:=fun x hx=>by rw [Zaj,Zft];omega
  have b5 : ∀ x ∈ p.Sems,(Zln x).length ≤ 1:=fun x hx=>by rw [Zln,Vq];omega
  have l1:=Zak b1
  have l2:=Zak b2
  have l3:=Zak b3
  have l5:=Zak b5
  have k1:=ok.pg1;have k2:=ok.pr1;have k3:=ok.po1;have k5:=ok.se1
  have hA:=Zg1 (L:=Wi p) (l:=p.Pages) (f:=fun x=>Zd9 1 (Zeh x)) 68 10000 (fun i x a hi hx ha=>by
    have hb:=ok.pag x (List.mem_of_getElem? hx)
    have hr:=Zcs (t:=1) (f:=fun x0=>Vh x0 x) (b:=Zeh x) (Zrz x hb) a (by omega) (by decide) (by decide) (by rw [Zfr];omega)
    simp only [Wi,hi,hx,hr,decide_true,cond_true,Option.bind_some]) (fun a=>by simp [Wi]) b1 [] (by simp;omega)
  rw [List.nil_append] at hA
  have hB:=Zg1 (L:=Wh p) (l:=p.Procs) (f:=fun x=>Zd9 2 (Ze7 x)) 9 10000 (fun i x a hi hx ha=>by
    have hb:=ok.prio x (List.mem_of_getElem? hx)
    have hr:=Zcs (t:=2) (f:=fun x0=>Vi x0 x) (b:=Ze7 x) (Zr0 x ⟨hb.1,hb.2.1,hb.2.2.1,hb.2.2.2.1⟩) a (by omega) (by decide) (by decide) (by rw [Zfs];omega)
    simp only [Wh,hi,hx,hr,decide_true,cond_true,Option.bind_some]) (fun a=>by simp [Wh]) b2 (p.Pages.flatMap (fun x=>Zd9 1 (Zeh x))) (by omega)
  have hC:=Zg1 (L:=Wg p) (l:=p.Ports) (f:=fun x=>Zd9 3 (Zfq x)) 7 10000 (fun i x a hi hx ha=>by
    have hb:=ok.dep x (List.mem_of_getElem? hx)
    have hr:=Zcs (t:=3) (f:=fun x0=>Vj x0 x) (b:=Zfq x) (Zr1 x hb.2) a (by omega) (by decide) (by decide) (by rw [Zft];omega)
    simp only [Wg,hi,hx,hr,decide_true,cond_true,Option.bind_some]) (fun a=>by simp [Wg]) b3 (p.Pages.flatMap (fun x=>Zd9 1 (Zeh x)) ++ p.Procs.flatMap (fun x=>Zd9 2 (Ze7 x))) (by rw [List.length_append];omega)
  have hD : Vk (wr []) p=some (wr (be p.Events 1)):=by
    have u:=Zlm (n:=p.Events) [] (by simp) ok.ev0 (by have:=ok.ev1;omega)
    simp only [Vk,u,Option.bind_some,List.nil_append]
  have hE : Vl (wr []) p=some (wr (p.Sems.flatMap Zln)):=by
    have h:=Zg1 (L:=Ym p) (l:=p.Sems) (f:=Zln) 1 10000 (fun i x a hi hx ha=>by
      have hb:=ok.sem x (List.mem_of_getElem? hx)
      have hr:=Zlm (n:=x) a (by omega) hb.1 hb.2
      simp only [Ym,hi,hx,hr,decide_true,cond_true,Option.bind_some,Zln]) (fun a=>by simp [Ym]) b5 [] (by simp;omega)
    simp only [Vl,h,Option.bind_some,List.nil_append]
  have d1:=Zcs (t:=4) (f:=fun x0=>Vk x0 p) (b:=be p.Events 1) hD (p.Pages.flatMap (fun x=>Zd9 1 (Zeh x)) ++ p.Procs.flatMap (fun x=>Zd9 2 (Ze7 x)) ++ p.Ports.flatMap (fun x=>Zd9 3 (Zfq x))) (by rw [List.length_append,List.length_append];omega) (by decide) (by decide) (by rw [Vq];omega)
  have d2:=Zcs (t:=5) (f:=fun x0=>Vl x0 p) (b:=p.Sems.flatMap Zln) hE (p.Pages.flatMap (fun x=>Zd9 1 (Zeh x)) ++ p.Procs.flatMap (fun x=>Zd9 2 (Ze7 x)) ++ p.Ports.flatMap (fun x=>Zd9 3 (Zfq x)) ++ Zd9 4 (be p.Events 1)) (by simp only [List.length_append,Zaj,Vq];omega) (by decide) (by decide) (by omega)
  simp only [Hx,e0,hA,hB,hC,d1,d2,Option.bind_some]
  simp only [Za1,List.append_assoc]
theorem Zh2 {p : GPlan} (ok : OkK p) : (Za1 p).length ≤ 4000:=by
  have b1 : ∀ x ∈ p.Pages,(Zd9 1 (Zeh x)).length ≤ 68:=fun x hx=>by have:=ok.pag x hx;rw [Zaj,Zfr];omega
  have b2 : ∀ x ∈ p.Procs,(Zd9 2 (Ze7 x)).length ≤ 9:=fun x hx=>by rw [Zaj,Zfs];omega
  have b3 : ∀ x ∈ p.Ports,(Zd9 3 (Zfq x)).length ≤ 7:=fun x hx=>by rw [Zaj,Zft];omega
  have b5 : ∀ x ∈ p.Sems,(Zln x).length ≤ 1:=fun x hx=>by rw [Zln,Vq];omega
  have l1:=Zak b1
  have l2:=Zak b2
  have l3:=Zak b3
  have l5:=Zak b5
  have k1:=ok.pg1;have k2:=ok.pr1;have k3:=ok.po1;have k5:=ok.se1
  simp only [Za1,List.length_append,Zaj,Vq];omega
def Tw : List UInt8:=[Qz 70,Qz 80,Qz 76,Qz 78]
def Zlq (p : GPlan) : List UInt8:=Tw ++ (be 1 2 ++ (be (((15 + (Za1 p).length + 4 : Nat)) : Int) 4 ++ (be p.Id 4 ++ Zka p.Mobile)))
def Tz (p : GPlan) : List UInt8:=Zlq p ++ Za1 p
def Zm5 (z : Int) : List UInt8:=[Qz z,Qz (shR .u32 z 8),Qz (shR .u32 z 16),Qz (shR .u32 z 24)]
def Zau (p : GPlan) : List UInt8:=Tz p ++ Zm5 (Zn5 (Tz p))
theorem Zd0 (p : GPlan) : (Zlq p).length=15:=by simp [Zlq,Tw,Vq,Zlo]
theorem Zr2 (b : List UInt8) (h : b.length ≤ 100000000) : Zco b=some (b ++ Zm5 (Zn5 b)):=by
  have c1 : (([] : List UInt8).length + b.length) * 1 ≤ 140737488355328:=by simp;omega
  have c2 : (([] ++ b).length + (Zm5 (Zn5 b)).length) * 1 ≤ 140737488355328:=by simp [Zm5];omega
  have e : Zbe (Zn5 b)=some (Zm5 (Zn5 b)):=rfl
  simp only [Zco,Ge,Zm2,e,chk,c1,c2,if_true,Option.bind_some]
  rfl
theorem Zea {p : GPlan} (h : Zba p=.nil) : Yv p=some (Zau p,.nil):=by
  have ok:=Zll h
  have hl:=Zh2 ok
  have e0 : Yd=some (wr []):=rfl
  have w1 : IntKind.i64.wrap (IntKind.i64.wrap (15 + (((Za1 p).length : Nat) : Int)) + 4)=(((15 + (Za1 p).length + 4 : Nat)) : Int):=by
    rw [Qo (z:=15 + (((Za1 p).length : Nat) : Int)) ⟨by omega,by omega⟩,Qo ⟨by omega,by omega⟩];omega
  have a1:=Zqg [] Tw (by simp [Tw])
  have a2:=u16_wr (n:=1) ([] ++ Tw) (by simp [Tw]) (by decide) (by decide)
  have a3:=Zqf (n:=(((15 + (Za1 p).length + 4 : Nat)) : Int)) ([] ++ Tw ++ be 1 2) (by simp [Tw,Vq]) (by omega) (by omega)
  have a4:=Zqf (n:=p.Id) ([] ++ Tw ++ be 1 2 ++ be (((15 + (Za1 p).length + 4 : Nat)) : Int) 4) (by simp [Tw,Vq]) ok.id0 (by have:=ok.id1;omega)
  have a5:=Zqh ([] ++ Tw ++ be 1 2 ++ be (((15 + (Za1 p).length + 4 : Nat)) : Int) 4 ++ be p.Id 4) p.Mobile (by simp [Tw,Vq])
  have hh : [] ++ Tw ++ be 1 2 ++ be (((15 + (Za1 p).length + 4 : Nat)) : Int) 4 ++ be p.Id 4 ++ Zka p.Mobile=Zlq p:=by simp only [Zlq,List.append_assoc,List.nil_append]
  rw [hh] at a5
  have a6:=Zqg (Zlq p) (Za1 p) (by rw [Zd0];omega)
  have a7:=Zm4 (Zlq p ++ Za1 p) (by rw [List.length_append,Zd0];omega)
  have a8:=Zr2 (Tz p) (by rw [Tz,List.length_append,Zd0];omega)
  simp only [Tw] at a1 a2 a3 a4 a5
  simp only [Tz] at a8
  simp only [Yv,Hs,h,Zlp ok,Zm4 (Za1 p) (by omega),e0,w1,a1,a2,a3,a4,a5,a6,a7,a8,decide_true,Bool.not_true,cond_false,Option.bind_some,Zau,Tz]
theorem Zh3 (p : GPlan) : Tk p=some (if Zba p=.nil then (Zfp p,.nil) else (0,.v Hp)):=by
  by_cases h : Zba p=.nil <;> simp [Tk,Hs,Zja,h]
end Go.Proofs.YtfemfiiagjnhdaaGreatDoor
set_option linter.unusedVariables false
set_option linter.unusedSimpArgs false
set_option linter.unusedSectionVars false
namespace Go.Proofs.YtfemfiiagjnhdaaGreatDoor
open Go Go.RowKit
structure Sees (c : GWireCursor) (l : List UInt8) : Prop where
  ok : OkCur c
  eq : cut c.b_ c.at_.toNat (c.bound_ - c.at_).toNat=l
theorem Sees.left {c : GWireCursor} {l : List UInt8} (h : Sees c l) : c.bound_ - c.at_=((l.length : Nat) : Int):=by
  obtain⟨⟨h1,h2,h3,h4⟩,he⟩:=h
  have:=Zm3 (b:=c.b_) (a:=c.at_.toNat) (n:=(c.bound_ - c.at_).toNat) (by omega)
  rw [he] at this;omega
theorem Zkb {b l r : List UInt8} {a n : Nat} (h : cut b a n=l ++ r) : cut b a l.length=l:=by
  have h1 : (cut b a n).take l.length=l:=by rw [h];simp
  have hn : l.length ≤ n:=by
    have:=congrArg List.length h
    have h2:=Zlk b a n
    rw [List.length_append] at this;omega
  rw [cut,List.take_take,Nat.min_eq_left hn] at h1
  exact h1
theorem Zr3 {b l r : List UInt8} {a n : Nat} (h : cut b a n=l ++ r) : cut b (a + l.length) (n - l.length)=r:=by
  have h1 : (cut b a n).drop l.length=r:=by rw [h];simp
  rw [cut,List.drop_take,List.drop_drop] at h1
  exact h1
theorem Sees.behind {c : GWireCursor} {l r : List UInt8} (h : Sees c (l ++ r)) : Sees ⟨c.b_,c.at_ + ((l.length : Nat) : Int),c.bound_⟩ r:=by
  have hl:=h.left
  rw [List.length_append] at hl
  obtain⟨⟨h1,h2,h3,h4⟩,he⟩:=h
  refine⟨⟨by simp only;omega,by simp only;omega,h3,h4⟩,?_⟩
  have:=Zr3 he
  simp only
  rw [show (c.at_ + ((l.length : Nat) : Int)).toNat=c.at_.toNat + l.length by omega,show (c.bound_ - (c.at_ + ((l.length : Nat) : Int))).toNat=(c.bound_ - c.at_).toNat - l.length by omega]
  exact this
theorem Sees.part {c : GWireCursor} {l r : List UInt8} (h : Sees c (l ++ r)) : Sees ⟨c.b_,c.at_,c.at_ + ((l.length : Nat) : Int)⟩ l:=by
  have hl:=h.left
  rw [List.length_append] at hl
  obtain⟨⟨h1,h2,h3,h4⟩,he⟩:=h
  refine⟨⟨h1,by simp only;omega,by simp only;omega,h4⟩,?_⟩
  have:=Zkb he
  simp only
  rw [show (c.at_ + ((l.length : Nat) : Int) - c.at_).toNat=l.length by omega]
  exact this
theorem Zf8 : ∀ (l : List UInt8) (z : Int),l.foldl (fun n b=>n * 256 + (b.toNat : Int)) z=z * 256 ^ l.length + Wy l
  | [],z=>by simp [Wy]
  | c :: r,z=>by
    have h1:=Zf8 r (z * 256 + (c.toNat : Int))
    have h2:=Zf8 r (0 * 256 + (c.toNat : Int))
    have e : Wy (c :: r)=(0 * 256 + (c.toNat : Int)) * 256 ^ r.length + Wy r:=h2
    rw [List.foldl_cons,h1,e,List.length_cons,Int.pow_succ]
    generalize (256 : Int) ^ r.length=t
    rw [Int.add_mul,Int.add_mul,Int.mul_assoc,Int.mul_comm 256 t,Int.zero_mul,Int.zero_mul]
    omega
theorem Zor (c : UInt8) (r : List UInt8) : Wy (c :: r)=(c.toNat : Int) * 256 ^ r.length + Wy r:=by
  rw [Wy,List.foldl_cons,Zf8];simp
theorem Zqj (a k : Nat) (hk : k ≤ 64) : shR .i64 (a : Int) (k : Int)=((a / 2 ^ k : Nat) : Int):=by
  unfold shR
  rw [Int.toNat_natCast,show min k IntKind.i64.bits=k from Nat.min_eq_left hk,Int.fdiv_eq_ediv_of_nonneg _ (Int.le_of_lt (Int.pow_pos (by decide)))]
  simp
theorem Zlr (n : Nat) : ∀ k,k ≤ 8 → Wy (be (n : Int) k)=((n % 256 ^ k : Nat) : Int)
  | 0,_=>by simp [be,Wy,Nat.mod_one]
  | k + 1,hk=>by
    have hb:=Zdk (((n / 2 ^ (8 * k) : Nat) : Int))
    have e2 : (2 : Nat) ^ (8 * k)=256 ^ k:=by rw [Nat.pow_mul]
    rw [be,Zor,Vq,Zlr n k (by omega),Zqj _ _ (by omega),hb,e2,Nat.pow_succ,Nat.mod_mul]
    have e3 : (((n / 256 ^ k : Nat) : Int)) % 256=((n / 256 ^ k % 256 : Nat) : Int):=by omega
    rw [e3,Int.natCast_add,Int.natCast_mul,Int.natCast_pow,Int.mul_comm,Int.add_comm]
    rfl
theorem Zkc {n : Int} {k : Nat} {m : Int} (hk : k ≤ 8) (h0 : 0 ≤ n) (h1 : n ≤ m) (hm : m < 256 ^ k) : Wy (be n k)=n:=by
  obtain⟨j,rfl⟩:=Int.eq_ofNat_of_zero_le h0
  rw [Zlr j k hk,Nat.mod_eq_of_lt]
  have : (j : Int) < ((256 ^ k : Nat) : Int):=by rw [Int.natCast_pow];exact Int.lt_of_le_of_lt h1 hm
  omega
abbrev adv (c : GWireCursor) (k : Int) : GWireCursor:=⟨c.b_,c.at_ + k,c.bound_⟩
def Xb (c : GWireCursor) (k : Nat) (lo hi : Int) : Int × ErrM × GWireCursor:=
  if c.bound_ - c.at_ < (k : Int) then (0,.pl c.at_ Wz,c)
  else if Wy (cut c.b_ c.at_.toNat k) < lo ∨ hi < Wy (cut c.b_ c.at_.toNat k) then (0,.pl c.at_ Vn,c)
  else (Wy (cut c.b_ c.at_.toNat k),.nil,adv c k)
theorem Zf9 (c : GWireCursor) (k : Nat) (lo hi : Int) (hk : k=1 ∨ k=2 ∨ k=4) (h : OkCur c) : Qm c (k : Int) lo hi=some (Xb c k lo hi):=by
  have e1 : Yu c.at_ (.v Wz)=some (.pl c.at_ Wz):=rfl
  have e2 : Yu c.at_ (.v Vn)=some (.pl c.at_ Vn):=rfl
  have e3 : (((!decide ((k : Int)=1)) && (!decide ((k : Int)=2))) && (!decide ((k : Int)=4)))=false:=by rcases hk with rfl | rfl | rfl <;> rfl
  unfold Xb
  by_cases h1 : c.bound_ - c.at_ < (k : Int)
  · simp only [Qu,Qm,e3,cond_false,Wd c h,Option.bind_some,h1,decide_true,cond_true,e1,if_true]
  · have hp:=Zj9 c 0 k (by omega) h (by have:=h.bl;omega)
    rw [Nat.add_zero] at hp
    have hp' : Xo c 0 (k : Int)=some (Wy (cut c.b_ c.at_.toNat k),c):=hp
    have hw : IntKind.i64.wrap (c.at_ + (k : Int))=c.at_ + (k : Int):=by
      obtain⟨k1,k2,k3,k4⟩:=h
      exact Qo ⟨by omega,by omega⟩
    by_cases h2 : Wy (cut c.b_ c.at_.toNat k) < lo
    · simp only [Qu,Qm,e3,cond_false,Wd c h,Option.bind_some,h1,hp',h2,e2,decide_true,decide_false,Bool.true_or,cond_true,true_or,if_true,if_false]
    · by_cases h3 : hi < Wy (cut c.b_ c.at_.toNat k)
      · simp only [Qu,Qm,e3,cond_false,Wd c h,Option.bind_some,h1,hp',h2,h3,e2,decide_true,decide_false,Bool.or_true,cond_true,or_true,if_true,if_false]
      · simp only [Qu,Qm,e3,cond_false,Wd c h,Option.bind_some,h1,hp',h2,h3,hw,decide_false,Bool.or_false,cond_false,or_false,if_false]
theorem Zbt (c : GWireCursor) (h : OkCur c) : Xv c=some (Xb c 1 0 255):=by
  have e:=Zf9 c 1 0 255 (by omega) h
  simp only [Qu,Xv,Zru,Option.bind_some]
  rw [show Qm c 1 0 255=_ from e]
  unfold Xb;split
  · rfl
  · split <;> rfl
theorem Zga (c : GWireCursor) (h : OkCur c) : Yn c=some (Xb c 4 0 4294967295):=by
  have e:=Zf9 c 4 0 4294967295 (by omega) h
  simp only [Qu,Yn,most4,Option.bind_some]
  rw [show Qm c 4 0 4294967295=_ from e]
  unfold Xb;split
  · rfl
  · split <;> rfl
def Zm6 (c : GWireCursor) : Bool × ErrM × GWireCursor:=(decide ((Xb c 1 0 1).1=1),(Xb c 1 0 1).2.1,(Xb c 1 0 1).2.2)
theorem Zg2 (c : GWireCursor) (h : OkCur c) : Vb c=some (Zm6 c):=by
  have e:=Zf9 c 1 0 1 (by omega) h
  simp only [Qu,Vb]
  rw [show Qm c 1 0 1=_ from e]
  unfold Zm6 Xb;split
  · rfl
  · split <;> rfl
theorem Wk {c : GWireCursor} {k : Nat} {lo hi : Int} (h : OkCur c) : OkCur (Xb c k lo hi).2.2 ∧ (Xb c k lo hi).2.2.b_=c.b_ ∧ (Xb c k lo hi).2.2.bound_=c.bound_ ∧ c.at_ ≤ (Xb c k lo hi).2.2.at_:=by
  have ok:=h
  obtain⟨k1,k2,k3,k4⟩:=h
  unfold Xb;split
  · exact⟨ok,rfl,rfl,Int.le_refl _⟩
  · split
    · exact⟨ok,rfl,rfl,Int.le_refl _⟩
    · exact⟨⟨by simp only;omega,by simp only;omega,k3,k4⟩,rfl,rfl,by simp only;omega⟩
def Zl7 (c : GWireCursor) (n : Nat) : List UInt8 × ErrM × GWireCursor:=
  if c.bound_ - c.at_ < (n : Int) then ([],.pl c.at_ Wz,c) else (cut c.b_ c.at_.toNat n,.nil,adv c n)
theorem Zgb (c : GWireCursor) (n : Nat) (h : OkCur c) : Xl c (n : Int)=some (Zl7 c n):=by
  have e1 : Yu c.at_ (.v Wz)=some (.pl c.at_ Wz):=rfl
  have e0 : ¬ (n : Int) < 0:=by omega
  unfold Zl7
  by_cases h1 : c.bound_ - c.at_ < (n : Int)
  · simp only [Qu,Xl,e0,cond_false,Wd c h,Option.bind_some,h1,decide_true,decide_false,cond_true,e1,if_true]
  · have ok:=h
    obtain⟨k1,k2,k3,k4⟩:=h
    have hw : IntKind.i64.wrap (c.at_ + (n : Int))=c.at_ + (n : Int):=Qo ⟨by omega,by omega⟩
    have hc : 0 ≤ c.at_ ∧ c.at_ ≤ c.at_ + (n : Int) ∧ c.at_ + (n : Int) ≤ ((c.b_.length : Nat) : Int):=⟨k1,by omega,by omega⟩
    have hn : (c.at_ + (n : Int)).toNat - c.at_.toNat=n:=by omega
    have hl:=Zm3 (b:=c.b_) (a:=c.at_.toNat) (n:=n) (by omega)
    have hcl : Xt ((c.b_.drop c.at_.toNat).take n)=some (cut c.b_ c.at_.toNat n):=by
      have c1 : (([] : List UInt8).length + ((c.b_.drop c.at_.toNat).take n).length) * 1 ≤ 140737488355328:=by
        rw [show (c.b_.drop c.at_.toNat).take n=cut c.b_ c.at_.toNat n from rfl,hl];simp only [List.length_nil];omega
      simp only [Xt,chk,c1,if_true,List.nil_append];rfl
    simp only [Qu,Xl,e0,cond_false,Wd c ok,Option.bind_some,h1,hw,hc,hn,hcl,chk,and_self,decide_false,if_true,if_false]
theorem Zm7 {c : GWireCursor} {n : Nat} (h : OkCur c) : OkCur (Zl7 c n).2.2 ∧ (Zl7 c n).2.2.b_=c.b_ ∧ (Zl7 c n).2.2.bound_=c.bound_ ∧ c.at_ ≤ (Zl7 c n).2.2.at_ ∧ (Zl7 c n).1.length ≤ n:=by
  have ok:=h
  obtain⟨k1,k2,k3,k4⟩:=h
  unfold Zl7;split
  · exact⟨ok,rfl,rfl,Int.le_refl _,Nat.zero_le _⟩
  · exact⟨⟨by simp only;omega,by simp only;omega,k3,k4⟩,rfl,rfl,by simp only;omega,Zlk _ _ _⟩
def Zua (c : GWireCursor) : ErrM × GWireCursor:=if 0 < c.bound_ - c.at_ then (.pl c.at_ Zoj,c) else (.nil,c)
theorem Zgc (c : GWireCursor) (h : OkCur c) : Kg c=some (Zua c):=by
  have e1 : Yu c.at_ (.v Zoj)=some (.pl c.at_ Zoj):=rfl
  unfold Zua
  by_cases h1 : 0 < c.bound_ - c.at_
  · simp only [Qu,Kg,Wd c h,Option.bind_some,h1,decide_true,cond_true,e1,if_true]
  · simp only [Qu,Kg,Wd c h,Option.bind_some,h1,decide_false,cond_false,if_false]
theorem Sees.num {c : GWireCursor} {n : Int} {k : Nat} {r : List UInt8} {lo hi : Int} (h : Sees c (be n k ++ r)) (hk : k ≤ 4) (h0 : lo ≤ n) (h1 : n ≤ hi) (l0 : 0 ≤ n) (l1 : hi < 256 ^ k) : Xb c k lo hi=(n,.nil,adv c k) ∧ Sees (adv c k) r:=by
  have hl:=h.left
  rw [List.length_append,Vq] at hl
  have hb:=h.behind
  rw [Vq] at hb
  refine⟨?_,hb⟩
  have hc:=Zkb h.eq
  rw [Vq] at hc
  unfold Xb
  rw [if_neg (by omega),hc,Zkc (m:=hi) (by omega) l0 h1 l1,if_neg (by omega)]
theorem Sees.num0 {c : GWireCursor} {n : Int} {k : Nat} {lo hi : Int} (h : Sees c (be n k)) (hk : k ≤ 4) (h0 : lo ≤ n) (h1 : n ≤ hi) (l0 : 0 ≤ n) (l1 : hi < 256 ^ k) : Xb c k lo hi=(n,.nil,adv c k) ∧ Sees (adv c k) []:=
  Sees.num (r:=[]) (by rw [List.append_nil];exact h) hk h0 h1 l0 l1
theorem Zr4 (b : Bool) : Zka b=be (if b=true then 1 else 0) 1:=by cases b <;> rfl
theorem Sees.flag {c : GWireCursor} {b : Bool} {r : List UInt8} (h : Sees c (Zka b ++ r)) : Zm6 c=(b,.nil,adv c 1) ∧ Sees (adv c 1) r:=by
  rw [Zr4] at h
  obtain⟨h1,h2⟩:=h.num (lo:=0) (hi:=1) (by omega) (by split <;> omega) (by split <;> omega) (by split <;> omega) (by decide)
  refine⟨?_,h2⟩
  unfold Zm6
  rw [h1]
  cases b <;> rfl
theorem Sees.raw {c : GWireCursor} {l : List UInt8} (h : Sees c l) : Zl7 c (c.bound_ - c.at_).toNat=(l,.nil,adv c l.length) ∧ Sees (adv c l.length) []:=by
  have hl:=h.left
  have hb:=Sees.behind (l:=l) (r:=[]) (by rw [List.append_nil];exact h)
  refine⟨?_,hb⟩
  unfold Zl7
  rw [if_neg (by omega),h.eq,hl,Int.toNat_natCast]
theorem Sees.ended {c : GWireCursor} (h : Sees c []) : Zua c=(.nil,c):=by
  have hl:=h.left
  unfold Zua
  rw [if_neg (by rw [hl];simp)]
theorem Sees.next {c : GWireCursor} {t : Int} {b r : List UInt8} (h : Sees c (Zd9 t b ++ r)) (h0 : 1 ≤ t) (h1 : t ≤ 255) (hb : b.length ≤ 65535) :
    ∃ d,Zat c=(t,some d,.nil,adv c (3 + (b.length : Int))) ∧ Sees d b ∧ d.b_=c.b_ ∧ Sees (adv c (3 + (b.length : Int))) r:=by
  have hl:=h.left
  rw [List.length_append,Zaj] at hl
  have e : Zd9 t b ++ r=be t 1 ++ (be (b.length : Int) 2 ++ (b ++ r)):=by simp only [Zd9,List.append_assoc]
  rw [e] at h
  have c1:=Zkb h.eq
  rw [Vq] at c1
  have k1:=h.behind
  rw [Vq] at k1
  have c2:=Zkb k1.eq
  rw [Vq] at c2
  have k2:=k1.behind
  rw [Vq] at k2
  have k3:=k2.part
  have k4:=k2.behind
  have ha:=h.ok.a0
  have n1 : Wy (cut c.b_ c.at_.toNat 1)=t:=by rw [c1];exact Zkc (m:=255) (by omega) (by omega) h1 (by decide)
  have n2 : Wy (cut c.b_ (c.at_.toNat + 1) 2)=(b.length : Int):=by
    have : (c.at_ + ((1 : Nat) : Int)).toNat=c.at_.toNat + 1:=by omega
    simp only [this] at c2
    rw [c2];exact Zkc (m:=65535) (by omega) (by omega) (by omega) (by decide)
  refine⟨⟨c.b_,c.at_ + 3,c.at_ + 3 + (b.length : Int)⟩,?_,?_,rfl,?_⟩
  · unfold Zat
    rw [if_neg (by omega),n1,n2,if_neg (by omega),if_neg (by omega)]
    simp only [adv,Int.add_assoc]
  · have : c.at_ + ((1 : Nat) : Int) + ((2 : Nat) : Int)=c.at_ + 3:=by omega
    simpa only [this] using k3
  · have : c.at_ + ((1 : Nat) : Int) + ((2 : Nat) : Int) + (b.length : Int)=c.at_ + (3 + (b.length : Int)):=by omega
    simpa only [this] using k4
end Go.Proofs.YtfemfiiagjnhdaaGreatDoor
set_option linter.unusedVariables false
set_option linter.unusedSimpArgs false
set_option linter.unusedSectionVars false
namespace Go.Proofs.YtfemfiiagjnhdaaGreatDoor
open Go Go.RowKit
theorem Zm8 {p q : Prop} [Decidable p] [Decidable q] (h : p ↔ q) : decide p=decide q:=by
  by_cases hp : p
  · rw [decide_eq_true hp,decide_eq_true (h.1 hp)]
  · rw [decide_eq_false hp,decide_eq_false fun hq=>hp (h.2 hq)]
section
variable {α : Type}
theorem Zh4 (q : α → Bool) : ∀ (l : List α) (k : Nat),Yq (fun _ x=>if q x=true then none else some false) k l=if l.all q=true then none else some false
  | [],_=>rfl
  | x :: r,k=>by
    have ih:=Zh4 q r (k + 1)
    rcases Bool.eq_false_or_eq_true (q x) with h|h <;> simp [Yq,h,ih]
theorem Zqk {L : Nat → Option (Nat ⊕ (Unit ⊕ Bool))} {a b : List α} (q : α → α → Bool) (hl : a.length=b.length)
    (h : ∀ i x y,i < a.length → a[i]? = some x → b[i]? = some y → L i=some (if q x y=true then .inl (i + 1) else .inr (.inr false))) (h2 : L a.length=some (.inr (.inl ()))) :
    Gk L 0=some (if (a.zip b).all (fun p=>q p.1 p.2)=true then .inl () else .inr false):=by
  have hz : (a.zip b).length=a.length:=by rw [List.length_zip,← hl,Nat.min_self]
  have hL:=Zas (L:=L) (l:=a.zip b) (f:=fun _ p=>if q p.1 p.2=true then none else some false) (fun i p hi hp=>by
    obtain⟨h3,h4⟩:=List.getElem?_zip_eq_some.1 hp
    rw [h i p.1 p.2 (by omega) h3 h4,Zf7,Zc6,Zd8]) (by rw [hz];exact h2)
  rw [hL,Zh4 (fun p : α × α=>q p.1 p.2)]
  split <;> rfl
theorem Zm9 [DecidableEq α] : ∀ {a b : List α},a.length=b.length → (((a.zip b).all fun p=>decide (p.1=p.2))=true ↔ a=b)
  | [],[],_=>by simp
  | [],y :: b,h=>by simp at h
  | x :: a,[],h=>by simp at h
  | x :: a,y :: b,h=>by
    have ih:=Zm9 (a:=a) (b:=b) (by simpa using h)
    simp only [List.zip_cons_cons,List.all_cons,Bool.and_eq_true,decide_eq_true_eq,List.cons.injEq,ih]
theorem Zeb {L : Nat → Option (Nat ⊕ (Unit ⊕ Bool))} {a b : List α} [DecidableEq α] (hl : a.length=b.length)
    (h : ∀ i x y,i < a.length → a[i]? = some x → b[i]? = some y → L i=some (if decide (x=y)=true then .inl (i + 1) else .inr (.inr false))) (h2 : L a.length=some (.inr (.inl ()))) :
    Gk L 0=some (if a=b then .inl () else .inr false):=by
  rw [Zqk (fun x y=>decide (x=y)) hl h h2]
  congr 1
  by_cases e : a=b
  · rw [if_pos e,if_pos ((Zm9 hl).2 e)]
  · rw [if_neg e,if_neg (fun h=>e ((Zm9 hl).1 h))]
end
theorem Zh5 {α : Type} {a b : List α} (h : ¬ a.length=b.length) : ¬ a=b:=fun e=>h (by rw [e])
abbrev Zls : Nat:=140737488355328
def Zna (p : GPlan) : Prop:=p.Pages.length * 24 ≤ Zls ∧ p.Procs.length * 24 ≤ Zls ∧ p.Ports.length * 32 ≤ Zls ∧ p.Sems.length * 8 ≤ Zls
theorem Zos (a b : List Int) : Vd a b=some (decide (a=b)):=by
  by_cases hl : a.length=b.length
  · have h:=Zeb (L:=Ki a b) hl (fun i x y hi hx hy=>by
      simp only [Ki,hi,hx,hy,decide_true,cond_true,Option.bind_some]
      by_cases e : x=y <;> simp [e]) (by simp [Ki])
    simp only [Vd,hl,decide_true,Bool.not_true,cond_false,h,Option.bind_some]
    by_cases e : a=b <;> simp [e]
  · simp only [Vd,hl,decide_false,Bool.not_false,cond_true,Zh5 hl]
theorem Zh6 (a b : List GPagePlan) : Jh a b=some (decide (a=b)):=by
  by_cases hl : a.length=b.length
  · have h:=Zeb (L:=Xq a b) hl (fun i x y hi hx hy=>by
      simp only [Xq,hi,hx,hy,decide_true,cond_true,Option.bind_some]
      by_cases e : x=y <;> simp [e]) (by simp [Xq])
    simp only [Jh,hl,decide_true,Bool.not_true,cond_false,h,Option.bind_some]
    by_cases e : a=b <;> simp [e]
  · simp only [Jh,hl,decide_false,Bool.not_false,cond_true,Zh5 hl]
theorem Zh7 (a b : List GProcPlan) : Ji a b=some (decide (a=b)):=by
  by_cases hl : a.length=b.length
  · have h:=Zeb (L:=Xr a b) hl (fun i x y hi hx hy=>by
      simp only [Xr,hi,hx,hy,decide_true,cond_true,Option.bind_some]
      by_cases e : x=y <;> simp [e]) (by simp [Xr])
    simp only [Ji,hl,decide_true,Bool.not_true,cond_false,h,Option.bind_some]
    by_cases e : a=b <;> simp [e]
  · simp only [Ji,hl,decide_false,Bool.not_false,cond_true,Zh5 hl]
theorem Zh8 (a b : List GPortPlan) : Jj a b=some (decide (a=b)):=by
  by_cases hl : a.length=b.length
  · have h:=Zeb (L:=Xs a b) hl (fun i x y hi hx hy=>by
      simp only [Xs,hi,hx,hy,decide_true,cond_true,Option.bind_some]
      by_cases e : x=y <;> simp [e]) (by simp [Xs])
    simp only [Jj,hl,decide_true,Bool.not_true,cond_false,h,Option.bind_some]
    by_cases e : a=b <;> simp [e]
  · simp only [Jj,hl,decide_false,Bool.not_false,cond_true,Zh5 hl]
theorem Zql (a b : GPlan) : a=b ↔ a.Id=b.Id ∧ a.Mobile=b.Mobile ∧ a.Pages=b.Pages ∧ a.Procs=b.Procs ∧ a.Ports=b.Ports ∧ a.Events=b.Events ∧ a.Sems=b.Sems:=by
  cases a;cases b;simp
theorem Zot (a b : GPlan) : Zbm a b=some (decide (a=b)):=by
  rw [Zm8 (Zql a b)]
  simp only [Zbm,Zh6,Zh7,Zh8,Zos,Option.bind_some,Bool.cond_eq_ite,decide_eq_true_eq,beq_iff_eq]
  by_cases h1 : a.Id=b.Id <;> by_cases h2 : a.Mobile=b.Mobile <;> by_cases h3 : a.Events=b.Events <;> by_cases h4 : a.Pages=b.Pages <;> by_cases h5 : a.Procs=b.Procs <;> by_cases h6 : a.Ports=b.Ports <;> simp [h1,h2,h3,h4,h5,h6]
end Go.Proofs.YtfemfiiagjnhdaaGreatDoor
set_option linter.unusedVariables false
set_option linter.unusedSimpArgs false
set_option linter.unusedSectionVars false
namespace Go.Proofs.YtfemfiiagjnhdaaGreatDoor
open Go Go.RowKit
def Znb (z : Int) : List UInt8:=[Qz z,Qz (shR .u32 z 8),Qz (shR .u32 z 16),Qz (shR .u32 z 24)]
def Znc (s : List UInt8) : Prop:=4 ≤ s.length ∧ s.drop (s.length - 4)=Znb (Zn5 (s.take (s.length - 4)))
theorem Zou (b : List UInt8) : Znc (b ++ Znb (Zn5 b)):=by
  have h4 : (Znb (Zn5 b)).length=4:=rfl
  have hl : (b ++ Znb (Zn5 b)).length - 4=b.length:=by rw [List.length_append,h4];omega
  refine⟨by rw [List.length_append,h4];omega,?_⟩
  rw [hl,List.drop_left,List.take_left]
end Go.Proofs.YtfemfiiagjnhdaaGreatDoor
set_option linter.unusedVariables false
set_option linter.unusedSimpArgs false
set_option linter.unusedSectionVars false
namespace Go.Proofs.YtfemfiiagjnhdaaGreatDoor
open Go Go.RowKit
def lens (p : GPlan) : Nat:=p.Pages.length + p.Procs.length + p.Ports.length + p.Sems.length
theorem tot3 {α β γ : Type} {o : Option (α × β × γ)} (h : o.isSome=true) : ∃ x e d,o=some (x,e,d):=by
  obtain⟨r,hr⟩:=Option.isSome_iff_exists.1 h
  exact⟨r.1,r.2.1,r.2.2,hr⟩
theorem Zr5 {c : GWireCursor} (h : OkCur c) : ∃ x e d,Hh c=some (x,e,d):=by
  have r1:=Wk (k:=1) (lo:=0) (hi:=255) h
  by_cases e1 : (Xb c 1 0 255).2.1=.nil
  · have hl:=Wd _ r1.1
    have hn : (((Xb c 1 0 255).2.2.bound_ - (Xb c 1 0 255).2.2.at_).toNat : Int)=(Xb c 1 0 255).2.2.bound_ - (Xb c 1 0 255).2.2.at_:=Int.toNat_of_nonneg (by have:=r1.1.ab;omega)
    have hr:=Zgb _ ((Xb c 1 0 255).2.2.bound_ - (Xb c 1 0 255).2.2.at_).toNat r1.1
    rw [hn] at hr
    have e2 : (⟨c.b_,(Xb c 1 0 255).2.2.at_,(Xb c 1 0 255).2.2.bound_⟩ : GWireCursor)=(Xb c 1 0 255).2.2:=by rw [← r1.2.1]
    refine tot3 ?_
    simp only [Qu,Hh,Zbt c h,e1,e2,hl,hr,Option.bind_some,decide_true,Bool.not_true,cond_false,Option.isSome_some]
  · refine tot3 ?_
    simp only [Qu,Hh,Zbt c h,e1,Option.bind_some,decide_false,Bool.not_false,cond_true,Option.isSome_some]
theorem Gv {c : GWireCursor} {k : Nat} {lo hi : Int} (h : OkCur c) : (⟨c.b_,(Xb c k lo hi).2.2.at_,(Xb c k lo hi).2.2.bound_⟩ : GWireCursor)=(Xb c k lo hi).2.2:=by
  rw [← (Wk h).2.1]
theorem Zr6 {c : GWireCursor} (h : OkCur c) : ∃ x e d,Ta c=some (x,e,d):=by
  have r1:=Wk (k:=4) (lo:=0) (hi:=4294967295) h
  have x1:=Gv (k:=4) (lo:=0) (hi:=4294967295) h
  generalize hc1 : Xb c 4 0 4294967295=q1 at r1 x1
  have r2:=Wk (k:=1) (lo:=0) (hi:=255) r1.1
  have x2:=Gv (k:=1) (lo:=0) (hi:=255) r1.1
  have u2:=Zbt _ r1.1
  generalize hc2 : Xb q1.2.2 1 0 255=q2 at r2 x2 u2
  have r3:=Wk (k:=1) (lo:=0) (hi:=1) r2.1
  have x3:=Gv (k:=1) (lo:=0) (hi:=1) r2.1
  have u3:=Zg2 _ r2.1
  unfold Zm6 at u3
  generalize hc3 : Xb q2.2.2 1 0 1=q3 at r3 x3 u3
  have u4:=Zgc _ r3.1
  rw [r1.2.1] at x2
  rw [r2.2.1,r1.2.1] at x3
  refine tot3 ?_
  simp only [Qu,Ta,Zga c h,hc1,x1,u2,x2,u3,x3,u4,Option.bind_some,Option.isSome_some]
theorem Zr7 {c : GWireCursor} (h : OkCur c) : ∃ x e d,Gg c=some (x,e,d):=by
  have r1:=Wk (k:=1) (lo:=0) (hi:=255) h
  have x1:=Gv (k:=1) (lo:=0) (hi:=255) h
  generalize hc1 : Xb c 1 0 255=q1 at r1 x1
  have r2:=Wk (k:=1) (lo:=0) (hi:=255) r1.1
  have x2:=Gv (k:=1) (lo:=0) (hi:=255) r1.1
  have u2:=Zbt _ r1.1
  generalize hc2 : Xb q1.2.2 1 0 255=q2 at r2 x2 u2
  have r3:=Wk (k:=1) (lo:=0) (hi:=255) r2.1
  have x3:=Gv (k:=1) (lo:=0) (hi:=255) r2.1
  have u3:=Zbt _ r2.1
  generalize hc3 : Xb q2.2.2 1 0 255=q3 at r3 x3 u3
  have r4:=Wk (k:=1) (lo:=0) (hi:=255) r3.1
  have x4:=Gv (k:=1) (lo:=0) (hi:=255) r3.1
  have u4:=Zbt _ r3.1
  generalize hc4 : Xb q3.2.2 1 0 255=q4 at r4 x4 u4
  have u5:=Zgc _ r4.1
  rw [r1.2.1] at x2
  rw [r2.2.1,r1.2.1] at x3
  rw [r3.2.1,r2.2.1,r1.2.1] at x4
  refine tot3 ?_
  simp only [Qu,Gg,Zbt c h,hc1,x1,u2,x2,u3,x3,u4,x4,u5,Option.bind_some,Option.isSome_some]
theorem Zlt (q : List UInt8 × ErrM × GWireCursor) (l : List Int) (hb : l.length + q.1.length ≤ 17179869184) : Gk (Gh q) (0,l)=some (l ++ q.1.map fun b=>(b.toNat : Int)):=by
  have key : ∀ m k l,k + m=q.1.length → l.length + m ≤ 17179869184 → Gk (Gh q) (k,l)=some (l ++ (q.1.drop k).map fun b=>(b.toNat : Int)):=by
    intro m
    induction m with
    | zero=>
      intro k l hk _
      rw [List.drop_eq_nil_of_le (by omega),List.map_nil,List.append_nil]
      exact Yr (by simp only [Gh,show ¬ k < q.1.length by omega,decide_false,cond_false])
    | succ m ih=>
      intro k l hk hl
      have hlt : k < q.1.length:=by omega
      have hx : q.1[k]? = some q.1[k]:=List.getElem?_eq_getElem hlt
      have hd : q.1.drop k=q.1[k] :: q.1.drop (k + 1):=List.drop_eq_getElem_cons hlt
      have c1 : (l.length + [((q.1[k]).toNat : Int)].length) * 8 ≤ 140737488355328:=by simp only [List.length_cons,List.length_nil];omega
      rw [Ks (s':=(k + 1,l ++ [((q.1[k]).toNat : Int)])) (by simp only [Gh,hlt,hx,chk,c1,decide_true,cond_true,Option.bind_some,if_true]),ih (k + 1) _ (by omega) (by rw [List.length_append];simp only [List.length_cons,List.length_nil];omega),hd,List.map_cons,List.append_assoc]
      rfl
  exact key q.1.length 0 l (by omega) hb
theorem Zub {p : GPlan} {t : Int} {c : GWireCursor} (h : OkCur c) (hl : lens p ≤ 8589934592) (hb : c.bound_ - c.at_ ≤ 70000) : ∃ e p' d,Kh p t c=some (e,p',d) ∧ (lens p' : Int) ≤ lens p + 1 + (c.bound_ - c.at_):=by
  have hk:=h.ab
  unfold lens at hl
  by_cases t1 : t=1
  · subst t1
    have t1 : (1 : Int)=1:=rfl
    obtain⟨x,e,d,hp⟩:=Zr5 h
    have c1 : (p.Pages.length + [x].length) * 24 ≤ 140737488355328:=by simp only [List.length_cons,List.length_nil];omega
    refine⟨e,⟨p.Id,p.Mobile,p.Pages ++ [x],p.Procs,p.Ports,p.Events,p.Sems⟩,⟨c.b_,d.at_,d.bound_⟩,by simp only [Qu,Kh,t1,hp,chk,c1,decide_true,cond_true,Option.bind_some,if_true],?_⟩
    simp only [lens,List.length_append,List.length_cons,List.length_nil];omega
  by_cases t2 : t=2
  · obtain⟨x,e,d,hp⟩:=Zr6 h
    have c1 : (p.Procs.length + [x].length) * 24 ≤ 140737488355328:=by simp only [List.length_cons,List.length_nil];omega
    refine⟨e,⟨p.Id,p.Mobile,p.Pages,p.Procs ++ [x],p.Ports,p.Events,p.Sems⟩,⟨c.b_,d.at_,d.bound_⟩,by simp only [Qu,Kh,t1,t2,hp,chk,c1,show ¬ (2 : Int)=1 by decide,decide_true,decide_false,cond_true,cond_false,Option.bind_some,if_true],?_⟩
    simp only [lens,List.length_append,List.length_cons,List.length_nil];omega
  by_cases t3 : t=3
  · obtain⟨x,e,d,hp⟩:=Zr7 h
    have c1 : (p.Ports.length + [x].length) * 32 ≤ 140737488355328:=by simp only [List.length_cons,List.length_nil];omega
    refine⟨e,⟨p.Id,p.Mobile,p.Pages,p.Procs,p.Ports ++ [x],p.Events,p.Sems⟩,⟨c.b_,d.at_,d.bound_⟩,by simp only [Qu,Kh,t1,t2,t3,hp,chk,c1,show ¬ (3 : Int)=1 by decide,show ¬ (3 : Int)=2 by decide,decide_true,decide_false,cond_true,cond_false,Option.bind_some,if_true],?_⟩
    simp only [lens,List.length_append,List.length_cons,List.length_nil];omega
  by_cases t4 : t=4
  · have r1:=Wk (k:=1) (lo:=0) (hi:=255) h
    have x1:=Gv (k:=1) (lo:=0) (hi:=255) h
    generalize hc1 : Xb c 1 0 255=q1 at r1 x1
    have u2:=Zgc _ r1.1
    refine⟨Zgn [q1.2.1,(Zua q1.2.2).1],⟨p.Id,p.Mobile,p.Pages,p.Procs,p.Ports,q1.1,p.Sems⟩,⟨c.b_,(Zua q1.2.2).2.at_,(Zua q1.2.2).2.bound_⟩,by simp only [Qu,Kh,t1,t2,t3,t4,Zbt c h,hc1,x1,u2,show ¬ (4 : Int)=1 by decide,show ¬ (4 : Int)=2 by decide,show ¬ (4 : Int)=3 by decide,decide_true,decide_false,cond_true,cond_false,Option.bind_some],?_⟩
    simp only [lens];omega
  by_cases t5 : t=5
  · have hn : ((c.bound_ - c.at_).toNat : Int)=c.bound_ - c.at_:=Int.toNat_of_nonneg (by omega)
    have hr:=Zgb c (c.bound_ - c.at_).toNat h
    have ro:=Zm7 (n:=(c.bound_ - c.at_).toNat) h
    rw [hn] at hr
    generalize Zl7 c (c.bound_ - c.at_).toNat=q at hr ro
    have hs:=Zlt q p.Sems (by omega)
    refine⟨q.2.1,⟨p.Id,p.Mobile,p.Pages,p.Procs,p.Ports,p.Events,p.Sems ++ q.1.map fun b=>(b.toNat : Int)⟩,⟨c.b_,q.2.2.at_,q.2.2.bound_⟩,by simp only [Qu,Kh,t1,t2,t3,t4,t5,Wd c h,hr,hs,show ¬ (5 : Int)=1 by decide,show ¬ (5 : Int)=2 by decide,show ¬ (5 : Int)=3 by decide,show ¬ (5 : Int)=4 by decide,decide_true,decide_false,cond_true,cond_false,Option.bind_some],?_⟩
    simp only [lens,List.length_append,List.length_map];omega
  · refine⟨.v Zok,p,c,by simp only [Qu,Kh,t1,t2,t3,t4,t5,decide_false,cond_false],?_⟩
    simp only [lens];omega
def Zlu (e : ErrM) (c : GWireCursor) (p : GPlan) : ErrM × Int × Int × Int × Bool × List GPagePlan × List GProcPlan × List GPortPlan × Int × List Int:=(e,c.at_,c.bound_,p.Id,p.Mobile,p.Pages,p.Procs,p.Ports,p.Events,p.Sems)
def Zlv (e : ErrM) (p : GPlan) : ErrM × Int × Bool × List GPagePlan × List GProcPlan × List GPortPlan × Int × List Int:=(e,p.Id,p.Mobile,p.Pages,p.Procs,p.Ports,p.Events,p.Sems)
theorem Zr8 {r c : GWireCursor} {e : ErrM} {p : GPlan} (he : e ≠ .nil) : Qw r (Zlu e c p)=some (.inr (Zlv e p)):=by
  simp only [Zlu,Qw,Uj,he,decide_false,cond_false,Option.bind_some,Zlv]
theorem Zn7 {r c : GWireCursor} {p : GPlan} (h : OkCur c) (hb : c.b_=r.b_) (hl : ¬ 0 < c.bound_ - c.at_) : Qw r (Zlu .nil c p)=some (.inr (Zlv .nil p)):=by
  simp only [Zlu,Qw,Uj,← hb,Qu,Wd c h,hl,decide_true,decide_false,cond_true,cond_false,Option.bind_some,Zlv]
theorem Zr9 {r c : GWireCursor} {p : GPlan} (h : OkCur c) (hb : c.b_=r.b_) (hl : 0 < c.bound_ - c.at_) (he : (Zat c).2.2.1 ≠ .nil) : Qw r (Zlu .nil c p)=some (.inl (Zlu (Zat c).2.2.1 (Zat c).2.2.2 p)):=by
  simp only [Zlu,Qw,Uj,← hb,Qu,Wd c h,hl,Zn6 c h,he,decide_true,decide_false,cond_true,cond_false,Option.bind_some]
theorem Zn8 {r c c' d d' : GWireCursor} {p p' : GPlan} {t : Int} {e : ErrM} (h : OkCur c) (hb : c.b_=r.b_) (hl : 0 < c.bound_ - c.at_) (hn : Zat c=(t,some d,.nil,c')) (hd : d.b_=c.b_) (hp : Kh p t d=some (e,p',d')) : Qw r (Zlu .nil c p)=some (.inl (Zlu e c' p')):=by
  simp only [Zlu,Qw,Uj,← hb,Qu,Wd c h,hl,Zn6 c h,hn,decide_true,cond_true,Option.bind_some]
  simp only [← hd,Qu]
  rw [show (⟨p.Id,p.Mobile,p.Pages,p.Procs,p.Ports,p.Events,p.Sems⟩ : GPlan)=p from rfl,hp]
  rfl
theorem Zuc {c d : GWireCursor} (h : (Zat c).2.1=some d) : d.bound_ - d.at_ ≤ 65535 ∧ 0 ≤ d.bound_ - d.at_ ∧ (Zat c).2.2.1=.nil:=by
  have hn:=Zqc (Zlk c.b_ (c.at_.toNat + 1) 2)
  unfold Zat at h ⊢
  split at h
  · cases h
  · split at h
    · cases h
    · split at h
      · cases h
      · rename_i h1 h2 h3
        rw [if_neg h1,if_neg h2,if_neg h3]
        cases h
        exact⟨by simp only;omega,by simp only;omega,rfl⟩
theorem Zsa {r : GWireCursor} (hr : r.b_.length ≤ 4294967296) {c : GWireCursor} {p : GPlan} {e : ErrM} (h : OkCur c) (hb : c.b_=r.b_) (hl : (lens p : Int) ≤ c.at_) : ∃ e' p',Gk (Qw r) (Zlu e c p)=some (Zlv e' p'):=by
  have key:=Zjb (L:=Qw r) (fun s=>∃ e c p,s=Zlu e c p ∧ OkCur c ∧ c.b_=r.b_ ∧ (lens p : Int) ≤ c.at_) (fun o=>∃ e p,o=Zlv e p) (fun s=>if s.1=.nil then (s.2.2.1 - s.2.1).toNat + 1 else 0) (fun s hI=>by
    obtain⟨e,c,p,rfl,h,hb,hl⟩:=hI
    have ok:=h
    obtain⟨k1,k2,k3,k4⟩:=h
    rw [hb] at k3
    by_cases he : e=.nil
    · subst he
      by_cases h0 : 0 < c.bound_ - c.at_
      · obtain⟨n1,n2,n3,n4,n5⟩:=Zry ok
        by_cases hn : (Zat c).2.2.1=.nil
        · obtain⟨d,hd⟩:=n5 hn
          obtain⟨d1,d2,d3,d4⟩:=n4 d hd
          obtain⟨m1,m2,_⟩:=Zuc hd
          obtain⟨e',p',d',hp,hle⟩:=Zub (p:=p) (t:=(Zat c).1) d1 (by omega) (by omega)
          have hnx : Zat c=((Zat c).1,some d,.nil,(Zat c).2.2.2):=by rw [← hd,← hn]
          refine .inl ⟨_,Zn8 ok hb h0 hnx d2 hp,⟨e',_,p',rfl,n1,n2.trans hb,by omega⟩,?_⟩
          simp only [Zlu,if_true,n3]
          split <;> omega
        · refine .inl ⟨_,Zr9 ok hb h0 hn,⟨_,_,p,rfl,n1,n2.trans hb,?_⟩,?_⟩
          · have : (Zat c).2.2.2.at_=c.at_:=by
              unfold Zat at hn ⊢
              split
              · rfl
              · split
                · rfl
                · split
                  · rfl
                  · rename_i h1 h2 h3
                    rw [if_neg h1,if_neg h2,if_neg h3] at hn
                    exact absurd rfl hn
            omega
          · simp only [Zlu,hn,if_true,if_false];omega
      · exact .inr ⟨_,Zn7 ok hb h0,⟨_,_,rfl⟩⟩
    · exact .inr ⟨_,Zr8 he,⟨_,_,rfl⟩⟩) (s:=Zlu e c p) ⟨e,c,p,rfl,h,hb,hl⟩
  obtain⟨_,h1,e',p',rfl⟩:=key
  exact⟨e',p',h1⟩
theorem Zsb {a b : List UInt8} : Zge a=Zge b ↔ a=b:=by
  constructor
  · intro h
    have:=congrArg (fun x : ByteArray=>x.data.toList) h
    simpa [Zge] using this
  · exact congrArg Zge
instance opensDec (s : List UInt8) : Decidable (Znc s):=by unfold Znc;infer_instance
theorem Zn9 (b : List UInt8) (h : b.length ≤ 140737488355328) : Zab b=some (if b.length < 4 then ([],.v Wz) else if Znc b then (b.take (b.length - 4),.nil) else ([],.v gSum)):=by
  by_cases h4 : b.length < 4
  · simp only [Zab,h4,decide_true,cond_true,if_true]
  · have hw : IntKind.i64.wrap (((b.length : Nat) : Int) - 4)=((b.length - 4 : Nat) : Int):=by rw [Qo ⟨by omega,by omega⟩];omega
    have hl : (b.take (b.length - 4)).length=b.length - 4:=by rw [List.length_take];omega
    have c1 : (0 : Int) ≤ ((b.length - 4 : Nat) : Int) ∧ ((b.length - 4 : Nat) : Int) ≤ ((b.length : Nat) : Int):=⟨by omega,by omega⟩
    have c2 : (0 : Int) ≤ ((b.length - 4 : Nat) : Int) ∧ ((b.length - 4 : Nat) : Int) ≤ ((b.length : Nat) : Int) ∧ ((b.length : Nat) : Int) ≤ ((b.length : Nat) : Int):=⟨by omega,by omega,by omega⟩
    have hd : (b.drop (b.length - 4)).take (b.length - (b.length - 4))=b.drop (b.length - 4):=List.take_of_length_le (by rw [List.length_drop];omega)
    have e : ∀ z,Zbe z=some (Znb z):=fun _=>rfl
    have hc : Ge (b.take (b.length - 4))=some (b.take (b.length - 4)):=by
      have c : (([] : List UInt8).length + (b.take (b.length - 4)).length) * 1 ≤ 140737488355328:=by rw [hl];simp only [List.length_nil];omega
      simp only [Ge,chk,c,if_true,List.nil_append]
    by_cases ho : Znc b
    · have hq : Zge (Znb (Zn5 (b.take (b.length - 4))))=Zge (b.drop (b.length - 4)):=by rw [ho.2]
      simp only [Zab,h4,hw,hl,Int.toNat_natCast,chk,c1,c2,and_self,hd,Zm2,e,Tr,hq,hc,ho,decide_true,decide_false,Bool.not_true,cond_false,Option.bind_some,if_true,if_false]
    · have hq : ¬ Zge (Znb (Zn5 (b.take (b.length - 4))))=Zge (b.drop (b.length - 4)):=fun hh=>ho ⟨by omega,(Zsb.1 hh).symm⟩
      simp only [Zab,h4,hw,hl,Int.toNat_natCast,chk,c1,c2,and_self,hd,Zm2,e,Tr,hq,ho,decide_false,Bool.not_false,cond_true,cond_false,Option.bind_some,if_true,if_false]
theorem Zh9 (a b : List UInt8) : Ke a b=some (decide (a=b)):=by
  by_cases hl : a.length=b.length
  · have h:=Zeb (L:=Ju a b) hl (fun i x y hi hx hy=>by
      simp only [Ju,hi,hx,hy,decide_true,cond_true,Option.bind_some]
      by_cases e : x=y
      · simp [e]
      · have : ¬ ((x.toNat : Int)=(y.toNat : Int)):=fun h=>e (UInt8.toNat_inj.1 (by omega))
        simp [e,this]) (by simp [Ju])
    simp only [Ke,hl,decide_true,Bool.not_true,cond_false,h,Option.bind_some]
    by_cases e : a=b <;> simp [e]
  · simp only [Ke,hl,decide_false,Bool.not_false,cond_true,Zh5 hl]
def noP : GPlan:=⟨0,false,[],[],[],0,[]⟩
theorem Zia {p : GPlan} (h : Zba p ≠ .nil) : Yv p=some ([],.v Hp):=by
  simp only [Yv,Hs,h,decide_false,Bool.not_false,cond_true,Option.bind_some]
theorem Zjc (b : List UInt8) (h : b.length ≤ 140737488355328) : Zbl b=some ⟨b,0,((b.length : Nat) : Int)⟩:=by
  have c : (([] : List UInt8).length + b.length) * 1 ≤ 140737488355328:=by simp only [List.length_nil];omega
  simp only [Zbl,Xt,chk,c,if_true,Option.bind_some,List.nil_append]
theorem Zs5 (b : List UInt8) (h : b.length ≤ 140737488355328) : OkCur ⟨b,0,((b.length : Nat) : Int)⟩:=⟨Int.le_refl _,by simp only;omega,Int.le_refl _,h⟩
theorem Zsc {c : GWireCursor} {n : Nat} (h : OkCur c) : (⟨c.b_,(Zl7 c n).2.2.at_,(Zl7 c n).2.2.bound_⟩ : GWireCursor)=(Zl7 c n).2.2:=by
  rw [← (Zm7 h).2.1]
theorem Zkd (b : List UInt8) (hb : b.length ≤ 140737488355328) : ∃ p e,Ku b=some (p,e) ∧ (e=.nil → Zba p=.nil ∧ Zau p=b) ∧ (e ≠ .nil → p=noP):=by
  have hO:=Zn9 b hb
  by_cases h4 : b.length < 4
  · rw [if_pos h4] at hO
    refine⟨noP,.v Wz,?_,(fun h=>by cases h),fun _=>rfl⟩
    simp only [Ku,hO,Option.bind_some,noP];rfl
  rw [if_neg h4] at hO
  by_cases ho : Znc b
  rotate_left
  · rw [if_neg ho] at hO
    refine⟨noP,.v gSum,?_,(fun h=>by cases h),fun _=>rfl⟩
    simp only [Ku,hO,Option.bind_some,noP];rfl
  rw [if_pos ho] at hO
  have hl : (b.take (b.length - 4)).length=b.length - 4:=by rw [List.length_take];omega
  generalize hbody : b.take (b.length - 4)=body at hO hl
  by_cases h15 : body.length < 15
  · refine⟨noP,.v Wz,?_,(fun h=>by cases h),fun _=>rfl⟩
    simp only [Ku,hO,h15,Option.bind_some,decide_true,Bool.not_true,cond_true,cond_false,noP]
  have c6 : (0 : Int) ≤ 6 ∧ (6 : Int) ≤ ((body.length : Nat) : Int):=⟨by decide,by omega⟩
  by_cases hk : Zge (body.take (6 : Int).toNat)=⟨#[70,80,76,78,0,1]⟩
  rotate_left
  · refine⟨noP,.v Zju,?_,(fun h=>by cases h),fun _=>rfl⟩
    simp only [Ku,hO,h15,hk,chk,c6,and_self,if_true,Option.bind_some,decide_true,decide_false,Bool.not_true,Bool.not_false,cond_true,cond_false,noP]
  have hop:=Zjc body (by omega)
  have ok0:=Zs5 body (by omega)
  generalize hc0 : (⟨body,0,((body.length : Nat) : Int)⟩ : GWireCursor)=c0 at hop ok0
  have hb0 : c0.b_=body:=by rw [← hc0]
  have hraw:=Zgb c0 6 ok0
  have r1:=Zm7 (n:=6) ok0
  have x1:=Zsc (n:=6) ok0
  generalize Zl7 c0 6=q1 at hraw r1 x1
  have hu1:=Zga _ r1.1
  have r2:=Wk (k:=4) (lo:=0) (hi:=4294967295) r1.1
  have x2:=Gv (k:=4) (lo:=0) (hi:=4294967295) r1.1
  have g2 : (Xb q1.2.2 4 0 4294967295).1 ≤ 4294967295:=by
    unfold Xb;split
    · simp
    · split
      · simp
      · simp only;omega
  generalize Xb q1.2.2 4 0 4294967295=q2 at hu1 r2 x2 g2
  rw [r1.2.1] at x2
  by_cases hn : q2.1=((b.length : Nat) : Int)
  rotate_left
  · refine⟨noP,.v Ur,?_,(fun h=>by cases h),fun _=>rfl⟩
    simp only [Ku,hO,h15,hk,chk,c6,and_self,hop,Qu,show Xl c0 6=_ from hraw,x1,hu1,hn,if_true,Option.bind_some,decide_true,decide_false,Bool.not_true,Bool.not_false,cond_true,cond_false,noP]
  have hu2:=Zga _ r2.1
  have r3:=Wk (k:=4) (lo:=0) (hi:=4294967295) r2.1
  have x3:=Gv (k:=4) (lo:=0) (hi:=4294967295) r2.1
  generalize Xb q2.2.2 4 0 4294967295=q3 at hu2 r3 x3
  rw [r2.2.1,r1.2.1] at x3
  have hu3:=Zg2 _ r3.1
  have r4:=Wk (k:=1) (lo:=0) (hi:=1) r3.1
  have f4 : (Zm6 q3.2.2).2.2=(Xb q3.2.2 1 0 1).2.2:=rfl
  generalize Zm6 q3.2.2=q4 at hu3 f4
  have ok4 : OkCur q4.2.2:=by rw [f4];exact r4.1
  have b4 : q4.2.2.b_=c0.b_:=by rw [f4,r4.2.1,r3.2.1,r2.2.1,r1.2.1]
  obtain⟨e,p,hL⟩:=Zsa (r:=c0) (c:=q4.2.2) (p:=⟨q3.1,q4.1,[],[],[],0,[]⟩) (e:=q4.2.1) (by rw [hb0];omega) ok4 b4 (by have:=ok4.a0;simpa [lens] using this)
  have hL' : Gk (Qw c0) (q4.2.1,q4.2.2.at_,q4.2.2.bound_,q3.1,q4.1,[],[],[],0,[])=some (e,p.Id,p.Mobile,p.Pages,p.Procs,p.Ports,p.Events,p.Sems):=hL
  have base : Ku b=(bif (!decide (e=.nil)) then some (noP,(.v Hp)) else (Yv p).bind fun r702=>(((bif (!decide (r702.2=.nil)) then some true else (Ke r702.1 b).bind fun r1213=>some (!r1213))) : Option Bool).bind (fun q=>(We p.Id p.Mobile p.Pages p.Procs p.Ports p.Events p.Sems) q)):=by
    simp only [Ku,hO,h15,hk,chk,c6,and_self,hop,Qu,show Xl c0 6=_ from hraw,x1,hu1,x2,hn,hu2,x3,hu3,if_true,Option.bind_some,decide_true,decide_false,Bool.not_true,cond_false]
    rw [hL']
    rfl
  by_cases he : e=.nil
  rotate_left
  · exact⟨noP,.v Hp,by rw [base];simp only [he,decide_false,Bool.not_false,cond_true],(fun h=>by cases h),fun _=>rfl⟩
  simp only [he,decide_true,Bool.not_true,cond_false] at base
  by_cases hp : Zba p=.nil
  · simp only [Zea hp,Option.bind_some,decide_true,Bool.not_true,cond_false,Zh9] at base
    by_cases hq : Zau p=b
    · simp only [hq,decide_true,Bool.not_true,We,cond_false] at base
      exact⟨p,.nil,base,fun _=>⟨hp,hq⟩,fun h=>absurd rfl h⟩
    · simp only [hq,decide_false,Bool.not_false,We,cond_true] at base
      exact⟨noP,.v Hp,base,(fun h=>by cases h),fun _=>rfl⟩
  · have hv : ¬ (ErrM.v Hp=ErrM.nil):=fun h=>by cases h
    simp only [Zia hp,Option.bind_some,hv,decide_false,Bool.not_false,cond_true,We] at base
    exact⟨noP,.v Hp,base,(fun h=>by cases h),fun _=>rfl⟩
theorem Zqm (s : ByteArray) : Zge s.data.toList=s:=by cases s;simp [Zge]
theorem Zsd {c : GWireCursor} {x : GPagePlan} (h : Sees c (Zeh x)) (h0 : 0 ≤ x.Rights) (h1 : x.Rights ≤ 7) : ∃ d,Hh c=some (x,.nil,d):=by
  obtain⟨e1,s1⟩:=h.num (lo:=0) (hi:=255) (by omega) h0 (by omega) h0 (by decide)
  have hr:=Zgb _ ((adv c ((1 : Nat) : Int)).bound_ - (adv c ((1 : Nat) : Int)).at_).toNat s1.ok
  obtain⟨e2,s2⟩:=s1.raw
  rw [e2] at hr
  have hn : ((((adv c ((1 : Nat) : Int)).bound_ - (adv c ((1 : Nat) : Int)).at_).toNat : Nat) : Int)=(adv c ((1 : Nat) : Int)).bound_ - (adv c ((1 : Nat) : Int)).at_:=Int.toNat_of_nonneg (by have:=s1.ok.ab;omega)
  rw [hn] at hr
  have hl:=Wd _ s1.ok
  have hu:=Zbt c h.ok
  rw [e1] at hu
  refine⟨adv (adv c ((1 : Nat) : Int)) (x.Init.data.toList.length : Int),?_⟩
  simp only [Qu,Hh,hu,Option.bind_some,decide_true,Bool.not_true,cond_false]
  simp only [adv] at hl hr ⊢
  simp only [hl,Option.bind_some,hr,Zqm]
theorem Zse {c : GWireCursor} {x : GProcPlan} (h : Sees c (Ze7 x)) (h0 : 0 ≤ x.Prio) (h1 : x.Prio ≤ 255) (h2 : 0 ≤ x.Entry) (h3 : x.Entry < 2048) : ∃ d,Ta c=some (x,.nil,d):=by
  obtain⟨e1,s1⟩:=h.num (lo:=0) (hi:=4294967295) (by omega) h2 (by omega) h2 (by decide)
  obtain⟨e2,s2⟩:=s1.num (lo:=0) (hi:=255) (by omega) h0 h1 h0 (by decide)
  obtain⟨e3,s3⟩:=Sees.flag (b:=x.Auto) (r:=[]) (by rw [List.append_nil];exact s2)
  have u1:=Zga c h.ok
  have u2:=Zbt _ s1.ok
  have u3:=Zg2 _ s2.ok
  have u4:=Zgc _ s3.ok
  rw [e1] at u1;rw [e2] at u2;rw [e3] at u3;rw [s3.ended] at u4
  refine⟨adv (adv (adv c ((4 : Nat) : Int)) ((1 : Nat) : Int)) 1,?_⟩
  simp only [adv] at u1 u2 u3 u4
  simp only [Qu,Ta,u1,Option.bind_some,u2,u3,u4]
  rfl
theorem Zsf {c : GWireCursor} {x : GPortPlan} (h : Sees c (Zfq x)) (h0 : 1 ≤ x.Kind ∧ x.Kind ≤ 4 ∧ 1 ≤ x.Size ∧ x.Size ≤ 32 ∧ 1 ≤ x.Depth ∧ x.Depth ≤ 8 ∧ 0 ≤ x.Refresh ∧ x.Refresh ≤ 255) : ∃ d,Gg c=some (x,.nil,d):=by
  obtain⟨e1,s1⟩:=h.num (lo:=0) (hi:=255) (by omega) (by omega) (by omega) (by omega) (by decide)
  obtain⟨e2,s2⟩:=s1.num (lo:=0) (hi:=255) (by omega) (by omega) (by omega) (by omega) (by decide)
  obtain⟨e3,s3⟩:=s2.num (lo:=0) (hi:=255) (by omega) (by omega) (by omega) (by omega) (by decide)
  obtain⟨e4,s4⟩:=s3.num0 (lo:=0) (hi:=255) (by omega) (by omega) (by omega) (by omega) (by decide)
  have u1:=Zbt c h.ok
  have u2:=Zbt _ s1.ok
  have u3:=Zbt _ s2.ok
  have u4:=Zbt _ s3.ok
  have u5:=Zgc _ s4.ok
  rw [e1] at u1;rw [e2] at u2;rw [e3] at u3;rw [e4] at u4;rw [s4.ended] at u5
  refine⟨adv (adv (adv (adv c ((1 : Nat) : Int)) ((1 : Nat) : Int)) ((1 : Nat) : Int)) ((1 : Nat) : Int),?_⟩
  simp only [adv] at u1 u2 u3 u4 u5
  simp only [Qu,Gg,u1,Option.bind_some,u2,u3,u4,u5]
  rfl
abbrev Item:=Int × List UInt8 × (GPlan → GPlan)
def Zib (i : Item) : Prop:=1 ≤ i.1 ∧ i.1 ≤ 255 ∧ i.2.1.length ≤ 65535 ∧ ∀ (q : GPlan) (d : GWireCursor),Sees d i.2.1 → lens q ≤ 5000 → ∃ d',Kh q i.1 d=some (.nil,i.2.2 q,d') ∧ lens (i.2.2 q) ≤ lens q + 8
def Zqn (x : GPagePlan) (q : GPlan) : GPlan:=⟨q.Id,q.Mobile,q.Pages ++ [x],q.Procs,q.Ports,q.Events,q.Sems⟩
def Zqo (x : GProcPlan) (q : GPlan) : GPlan:=⟨q.Id,q.Mobile,q.Pages,q.Procs ++ [x],q.Ports,q.Events,q.Sems⟩
def Zqp (x : GPortPlan) (q : GPlan) : GPlan:=⟨q.Id,q.Mobile,q.Pages,q.Procs,q.Ports ++ [x],q.Events,q.Sems⟩
def evU (n : Int) (q : GPlan) : GPlan:=⟨q.Id,q.Mobile,q.Pages,q.Procs,q.Ports,n,q.Sems⟩
def semU (l : List Int) (q : GPlan) : GPlan:=⟨q.Id,q.Mobile,q.Pages,q.Procs,q.Ports,q.Events,q.Sems ++ l⟩
theorem Zqq {x : GPagePlan} (h : 0 ≤ x.Rights ∧ x.Rights ≤ 7 ∧ x.Init.size ≤ 64) : Zib (1,Zeh x,Zqn x):=by
  refine⟨by simp,by simp,by simp only [Zfr];omega,fun q d hs hq=>?_⟩
  unfold lens at hq
  obtain⟨d',hp⟩:=Zsd hs h.1 h.2.1
  have c1 : (q.Pages.length + [x].length) * 24 ≤ 140737488355328:=by simp only [List.length_cons,List.length_nil];omega
  exact⟨⟨d.b_,d'.at_,d'.bound_⟩,by simp only [Qu,Kh,hp,chk,c1,decide_true,cond_true,Option.bind_some,if_true];rfl,by simp only [lens,Zqn,List.length_append,List.length_cons,List.length_nil];omega⟩
theorem Zqr {x : GProcPlan} (h : 0 ≤ x.Prio ∧ x.Prio ≤ 255 ∧ 0 ≤ x.Entry ∧ x.Entry < 2048) : Zib (2,Ze7 x,Zqo x):=by
  refine⟨by simp,by simp,by simp only [Zfs];omega,fun q d hs hq=>?_⟩
  unfold lens at hq
  obtain⟨d',hp⟩:=Zse hs h.1 h.2.1 h.2.2.1 h.2.2.2
  have c1 : (q.Procs.length + [x].length) * 24 ≤ 140737488355328:=by simp only [List.length_cons,List.length_nil];omega
  exact⟨⟨d.b_,d'.at_,d'.bound_⟩,by simp only [Qu,Kh,hp,chk,c1,show ¬ (2 : Int)=1 by decide,decide_true,decide_false,cond_true,cond_false,Option.bind_some,if_true];rfl,by simp only [lens,Zqo,List.length_append,List.length_cons,List.length_nil];omega⟩
theorem Zqs {x : GPortPlan} (h : 1 ≤ x.Kind ∧ x.Kind ≤ 4 ∧ 1 ≤ x.Size ∧ x.Size ≤ 32 ∧ 1 ≤ x.Depth ∧ x.Depth ≤ 8 ∧ 0 ≤ x.Refresh ∧ x.Refresh ≤ 255) : Zib (3,Zfq x,Zqp x):=by
  refine⟨by simp,by simp,by simp only [Zft];omega,fun q d hs hq=>?_⟩
  unfold lens at hq
  obtain⟨d',hp⟩:=Zsf hs h
  have c1 : (q.Ports.length + [x].length) * 32 ≤ 140737488355328:=by simp only [List.length_cons,List.length_nil];omega
  exact⟨⟨d.b_,d'.at_,d'.bound_⟩,by simp only [Qu,Kh,hp,chk,c1,show ¬ (3 : Int)=1 by decide,show ¬ (3 : Int)=2 by decide,decide_true,decide_false,cond_true,cond_false,Option.bind_some,if_true];rfl,by simp only [lens,Zqp,List.length_append,List.length_cons,List.length_nil];omega⟩
theorem Zud {n : Int} (h0 : 0 ≤ n) (h1 : n ≤ 8) : Zib (4,be n 1,evU n):=by
  refine⟨by simp,by simp,by simp only [Vq];omega,fun q d hs hq=>?_⟩
  obtain⟨e1,s1⟩:=hs.num0 (lo:=0) (hi:=255) (by omega) h0 (by omega) h0 (by decide)
  have u1:=Zbt d hs.ok
  have u2:=Zgc _ s1.ok
  rw [e1] at u1;rw [s1.ended] at u2
  simp only [adv] at u1 u2
  refine⟨adv d ((1 : Nat) : Int),by simp only [Qu,Kh,u1,u2,show ¬ (4 : Int)=1 by decide,show ¬ (4 : Int)=2 by decide,show ¬ (4 : Int)=3 by decide,decide_true,decide_false,cond_true,cond_false,Option.bind_some];rfl,by simp only [lens,evU];omega⟩
theorem Zlw : ∀ {l : List Int},(∀ n ∈ l,0 ≤ n ∧ n ≤ 255) → (l.flatMap Zln).map (fun b=>(b.toNat : Int))=l
  | [],_=>rfl
  | n :: l,h=>by
    have hn:=h n (List.mem_cons_self ..)
    have hb:=Zdk n
    have hs : shR .i64 n ((8 * 0 : Nat) : Int)=n:=by unfold shR;simp
    rw [List.flatMap_cons,List.map_append,Zlw fun m hm=>h m (List.mem_cons_of_mem _ hm)]
    show ((Qz (shR .i64 n ((8 * 0 : Nat) : Int))).toNat : Int) :: l=n :: l
    rw [hs,hb,show n % 256=n by omega]
theorem Zsg {l : List Int} (h : ∀ n ∈ l,0 ≤ n ∧ n ≤ 255) (hl : l.length ≤ 8) : Zib (5,l.flatMap Zln,semU l):=by
  have hf : (l.flatMap Zln).length ≤ l.length * 1:=Zak fun x _=>by rw [Zln,Vq];omega
  refine⟨by simp,by simp,by simp only;omega,fun q d hs hq=>?_⟩
  unfold lens at hq
  have hr:=Zgb d (d.bound_ - d.at_).toNat hs.ok
  obtain⟨e2,s2⟩:=hs.raw
  rw [e2] at hr
  have hn : (((d.bound_ - d.at_).toNat : Nat) : Int)=d.bound_ - d.at_:=Int.toNat_of_nonneg (by have:=hs.ok.ab;omega)
  rw [hn] at hr
  have hsl:=Zlt (l.flatMap Zln,.nil,adv d (l.flatMap Zln).length) q.Sems (by simp only;omega)
  rw [Zlw h] at hsl
  refine⟨adv d (l.flatMap Zln).length,by simp only [Qu,Kh,Wd d hs.ok,hr,hsl,show ¬ (5 : Int)=1 by decide,show ¬ (5 : Int)=2 by decide,show ¬ (5 : Int)=3 by decide,show ¬ (5 : Int)=4 by decide,decide_true,decide_false,cond_true,cond_false,Option.bind_some];rfl,by simp only [lens,semU,List.length_append];omega⟩
theorem Zjd {r : GWireCursor} : ∀ (its : List Item) (q : GPlan) (c : GWireCursor),(∀ i ∈ its,Zib i) → Sees c (its.flatMap fun i=>Zd9 i.1 i.2.1) → c.b_=r.b_ → lens q + 8 * its.length ≤ 5000 →
    Gk (Qw r) (Zlu .nil c q)=some (Zlv .nil (its.foldl (fun q i=>i.2.2 q) q))
  | [],q,c,_,hs,hb,_=>by
    have hl:=hs.left
    exact Yr (Zn7 hs.ok hb (by rw [hl];simp))
  | i :: its,q,c,hI,hs,hb,hq=>by
    obtain⟨t0,t1,hlen,hput⟩:=hI i (List.mem_cons_self ..)
    rw [List.flatMap_cons] at hs
    have hl:=hs.left
    rw [List.length_append,Zaj] at hl
    obtain⟨d,hn,sd,hdb,sc⟩:=hs.next t0 t1 hlen
    rw [List.length_cons] at hq
    obtain⟨d',hp,hle⟩:=hput q d sd (by omega)
    rw [Ks (Zn8 hs.ok hb (by omega) hn hdb hp)]
    exact Zjd its _ _ (fun j hj=>hI j (List.mem_cons_of_mem _ hj)) sc hb (by omega)
def Zke (p : GPlan) : List Item:=p.Pages.map (fun x=>(1,Zeh x,Zqn x)) ++ (p.Procs.map (fun x=>(2,Ze7 x,Zqo x)) ++ (p.Ports.map (fun x=>(3,Zfq x,Zqp x)) ++ [(4,be p.Events 1,evU p.Events),(5,p.Sems.flatMap Zln,semU p.Sems)]))
theorem Zov (p : GPlan) : (Zke p).flatMap (fun i=>Zd9 i.1 i.2.1)=Za1 p:=by
  simp only [Zke,Za1,List.flatMap_append,List.flatMap_map,List.flatMap_cons,List.flatMap_nil,List.append_nil]
theorem Zsh {p : GPlan} (ok : OkK p) : ∀ i ∈ Zke p,Zib i:=by
  intro i hi
  simp only [Zke,List.mem_append,List.mem_map,List.mem_cons,List.not_mem_nil,or_false] at hi
  rcases hi with ⟨x,hx,rfl⟩ | ⟨x,hx,rfl⟩ | ⟨x,hx,rfl⟩|rfl|rfl
  · exact Zqq (ok.pag x hx)
  · obtain⟨h1,h2,h3,h4,_⟩:=ok.prio x hx
    exact Zqr ⟨h1,h2,h3,h4⟩
  · exact Zqs (ok.dep x hx).2
  · exact Zud ok.ev0 ok.ev1
  · exact Zsg ok.sem ok.se1
theorem Zje : ∀ (l : List GPagePlan) (q : GPlan),l.foldl (fun q x=>Zqn x q) q=⟨q.Id,q.Mobile,q.Pages ++ l,q.Procs,q.Ports,q.Events,q.Sems⟩
  | [],q=>by simp
  | x :: l,q=>by rw [List.foldl_cons,Zje l];simp [Zqn]
theorem Zjf : ∀ (l : List GProcPlan) (q : GPlan),l.foldl (fun q x=>Zqo x q) q=⟨q.Id,q.Mobile,q.Pages,q.Procs ++ l,q.Ports,q.Events,q.Sems⟩
  | [],q=>by simp
  | x :: l,q=>by rw [List.foldl_cons,Zjf l];simp [Zqo]
theorem Zjg : ∀ (l : List GPortPlan) (q : GPlan),l.foldl (fun q x=>Zqp x q) q=⟨q.Id,q.Mobile,q.Pages,q.Procs,q.Ports ++ l,q.Events,q.Sems⟩
  | [],q=>by simp
  | x :: l,q=>by rw [List.foldl_cons,Zjg l];simp [Zqp]
theorem Zow (p : GPlan) : (Zke p).foldl (fun q i=>i.2.2 q) ⟨p.Id,p.Mobile,[],[],[],0,[]⟩=p:=by
  simp only [Zke,List.foldl_append,List.foldl_map,List.foldl_cons,List.foldl_nil,Zje,Zjf,Zjg,evU,semU,List.nil_append]
theorem Zqt {p : GPlan} (ok : OkK p) : (Zke p).length ≤ 50:=by
  have h1:=ok.pg1;have h2:=ok.pr1;have h3:=ok.po1
  simp only [Zke,List.length_append,List.length_map,List.length_cons,List.length_nil];omega
theorem Ziq {p : GPlan} (h : Zba p=.nil) : Ku (Zau p)=some (p,.nil):=by
  have ok:=Zll h
  have hrl:=Zh2 ok
  have hhl:=Zd0 p
  have hbl : (Tz p).length=15 + (Za1 p).length:=by rw [Tz,List.length_append,hhl]
  have h4 : (Zm5 (Zn5 (Tz p))).length=4:=rfl
  have hlen : (Zau p).length=15 + (Za1 p).length + 4:=by rw [Zau,List.length_append,hbl,h4]
  have hop : Znc (Zau p):=Zou (Tz p)
  have htk : (Zau p).take ((Zau p).length - 4)=Tz p:=by
    rw [hlen,show 15 + (Za1 p).length + 4 - 4=(Tz p).length by omega,Zau,List.take_left]
  have hO:=Zn9 (Zau p) (by omega)
  rw [if_neg (by omega),if_pos hop,htk] at hO
  have h15 : ¬ (Tz p).length < 15:=by omega
  have c6 : (0 : Int) ≤ 6 ∧ (6 : Int) ≤ (((Tz p).length : Nat) : Int):=⟨by decide,by omega⟩
  have e6 : Tz p=(Tw ++ be 1 2) ++ (be (((15 + (Za1 p).length + 4 : Nat)) : Int) 4 ++ (be p.Id 4 ++ (Zka p.Mobile ++ Za1 p))):=by
    simp only [Tz,Zlq,List.append_assoc]
  have l6 : (Tw ++ be 1 2).length=6:=by simp [Tw,Vq]
  have t6 : (Tz p).take (6 : Int).toNat=Tw ++ be 1 2:=by
    rw [e6,show (6 : Int).toNat=(Tw ++ be 1 2).length from by rw [l6];rfl,List.take_left]
  have hk : Zge ((Tz p).take (6 : Int).toNat)=⟨#[70,80,76,78,0,1]⟩:=by rw [t6];kernel_rfl
  have hOp:=Zjc (Tz p) (by omega)
  have ok0:=Zs5 (Tz p) (by omega)
  have hs0 : Sees ⟨Tz p,0,(((Tz p).length : Nat) : Int)⟩ (Tz p):=⟨ok0,by
    simp only [cut,Int.sub_zero,Int.toNat_natCast,Int.toNat_zero,List.drop_zero]
    exact List.take_of_length_le (Nat.le_refl _)⟩
  generalize hc0 : (⟨Tz p,0,(((Tz p).length : Nat) : Int)⟩ : GWireCursor)=c0 at hOp ok0 hs0
  have hb0 : c0.b_=Tz p:=by rw [← hc0]
  rw [e6] at hs0
  have s1:=hs0.behind
  rw [l6] at s1
  have hraw : Xl c0 6=some (cut c0.b_ c0.at_.toNat 6,.nil,adv c0 ((6 : Nat) : Int)):=by
    have hr:=Zgb c0 6 ok0
    have hl:=hs0.left
    rw [List.length_append,l6] at hl
    unfold Zl7 at hr
    rw [if_neg (by omega)] at hr
    exact hr
  obtain⟨e2,s2⟩:=s1.num (lo:=0) (hi:=4294967295) (by omega) (by omega) (by omega) (by omega) (by decide)
  obtain⟨e3,s3⟩:=s2.num (lo:=0) (hi:=4294967295) (by omega) ok.id0 (by have:=ok.id1;omega) ok.id0 (by decide)
  obtain⟨e4,s4⟩:=s3.flag
  have u2:=Zga _ s1.ok
  have u3:=Zga _ s2.ok
  have u4:=Zg2 _ s3.ok
  rw [e2] at u2;rw [e3] at u3;rw [e4] at u4
  rw [← Zov] at s4
  have hL:=Zjd (r:=c0) (Zke p) ⟨p.Id,p.Mobile,[],[],[],0,[]⟩ _ (Zsh ok) s4 rfl (by have:=Zqt ok;simp only [lens,List.length_nil];omega)
  rw [Zow] at hL
  have hn : ((15 + (Za1 p).length + 4 : Nat) : Int)=(((Zau p).length : Nat) : Int):=by rw [hlen]
  simp only [adv,Zlu,Zlv] at hraw u2 u3 u4 hL
  simp only [Ku,hO,h15,hk,chk,c6,and_self,hOp,hraw,Qu,u2,u3,u4,hn,if_true,Option.bind_some,decide_true,decide_false,Bool.not_true,cond_false]
  rw [hL]
  simp only [Option.bind_some,decide_true,Bool.not_true,cond_false,Zea h,Zh9,We]
end Go.Proofs.YtfemfiiagjnhdaaGreatDoor
set_option linter.unusedVariables false
set_option linter.unusedSimpArgs false
set_option linter.unusedSectionVars false
namespace Go.Proofs.YtfemfiiagjnhdaaGreatDoor
open Go Go.RowKit
theorem Zue {x : GPortPlan} (h : Zh0 x=.nil) (k : 1 ≤ x.Kind ∧ x.Kind ≤ 4 ∧ 1 ≤ x.Size ∧ x.Size ≤ 32 ∧ 1 ≤ x.Depth ∧ x.Depth ≤ 8) : 0 ≤ Zcb x ∧ Zcb x ≤ 300:=by
  unfold Zcb
  rw [if_neg (by rw [h];exact fun c=>c rfl)]
  split
  · omega
  · have e1 : IntKind.i64.wrap (1 + x.Size)=1 + x.Size:=Qo ⟨by omega,by omega⟩
    have b1 : 0 ≤ x.Depth * (1 + x.Size):=Int.mul_nonneg (by omega) (by omega)
    have b2 : x.Depth * (1 + x.Size) ≤ 8 * 33:=Int.mul_le_mul (by omega) (by omega) (by omega) (by omega)
    have e2 : IntKind.i64.wrap (x.Depth * (1 + x.Size))=x.Depth * (1 + x.Size):=Qo ⟨by omega,by omega⟩
    have e3 : IntKind.i64.wrap (2 + x.Depth * (1 + x.Size))=2 + x.Depth * (1 + x.Size):=Qo ⟨by omega,by omega⟩
    rw [e1,e2,e3]
    omega
def Zs6 (l : List GPortPlan) : Int:=(l.map fun x=>3 + Zcb x).sum
theorem Zic : ∀ (l : List GPortPlan) (z : Int),(∀ x ∈ l,0 ≤ Zcb x ∧ Zcb x ≤ 300) → 0 ≤ z → z + 303 * (l.length : Int) ≤ 1000000 → l.foldl (fun z x=>IntKind.i64.wrap (z + IntKind.i64.wrap (3 + Zcb x))) z=z + Zs6 l ∧ 0 ≤ Zs6 l ∧ Zs6 l ≤ 303 * (l.length : Int)
  | [],z,_,_,_=>by simp [Zs6]
  | x :: r,z,h,h0,hz=>by
    have hx:=h x (List.mem_cons_self ..)
    rw [List.length_cons] at hz
    have e1 : IntKind.i64.wrap (3 + Zcb x)=3 + Zcb x:=Qo ⟨by omega,by omega⟩
    have e2 : IntKind.i64.wrap (z + (3 + Zcb x))=z + (3 + Zcb x):=Qo ⟨by omega,by omega⟩
    obtain⟨i1,i2,i3⟩:=Zic r (z + (3 + Zcb x)) (fun y hy=>h y (List.mem_cons_of_mem _ hy)) (by omega) (by omega)
    have e3 : Zs6 (x :: r)=3 + Zcb x + Zs6 r:=by simp [Zs6]
    rw [List.foldl_cons,e1,e2,i1,e3,List.length_cons]
    omega
theorem Zsi {p : GPlan} (h1 : p.Procs.length ≤ 9) (h2 : p.Pages.length ≤ 33) (h3 : 0 ≤ p.Events) (h4 : p.Events ≤ 9) (h5 : p.Sems.length ≤ 9) (h6 : p.Ports.length ≤ 8) (h7 : ∀ x ∈ p.Ports,0 ≤ Zcb x ∧ Zcb x ≤ 300) :
    Zfp p=58 + 76 * (p.Procs.length : Int) + 68 * (p.Pages.length : Int) + p.Events + (p.Sems.length : Int) + Zs6 p.Ports:=by
  unfold Zfp
  rw [Qo (z:=76 * ((p.Procs.length : Nat) : Int)) ⟨by omega,by omega⟩,Qo (z:=68 * ((p.Pages.length : Nat) : Int)) ⟨by omega,by omega⟩,Qo (z:=58 + 76 * ((p.Procs.length : Nat) : Int)) ⟨by omega,by omega⟩,
    Qo (z:=58 + 76 * ((p.Procs.length : Nat) : Int) + 68 * ((p.Pages.length : Nat) : Int)) ⟨by omega,by omega⟩,Qo (z:=58 + 76 * ((p.Procs.length : Nat) : Int) + 68 * ((p.Pages.length : Nat) : Int) + p.Events) ⟨by omega,by omega⟩,Qo (z:=58 + 76 * ((p.Procs.length : Nat) : Int) + 68 * ((p.Pages.length : Nat) : Int) + p.Events + ((p.Sems.length : Nat) : Int)) ⟨by omega,by omega⟩]
  exact (Zic p.Ports _ h7 (by omega) (by omega)).1
theorem Zsj {p : GPlan} (ok : OkK p) : ∀ x ∈ p.Ports,0 ≤ Zcb x ∧ Zcb x ≤ 300:=fun x hx=>by
  have h:=ok.dep x hx
  exact Zue h.1 (by omega)
section
variable {α σ τ : Type}
def Zgk (q : Nat → α → Bool) : Nat → List α → Bool
  | _,[]=>true
  | k,x :: r=>q k x && Zgk q (k + 1) r
theorem Zg3 (q : α → Bool) : ∀ (l : List α) (k : Nat),Zgk (fun _ x=>q x) k l=l.all q
  | [],_=>rfl
  | x :: r,k=>by simp only [Zgk,List.all_cons,Zg3 q r (k + 1)]
theorem Zg4 {q : Nat → α → Bool} : ∀ {l : List α} {k : Nat},Zgk q k l=true ↔ ∀ i x,l[i]? = some x → q (k + i) x=true
  | [],k=>by simp [Zgk]
  | x :: r,k=>by
    rw [Zgk,Bool.and_eq_true,Zg4]
    constructor
    · intro ⟨h1,h2⟩ i y hy
      cases i with
      | zero =>
        have : x=y := by simpa using hy
        subst this;exact h1
      | succ j=>have := h2 j y (by simpa using hy);rwa [show k + (j + 1)=k + 1 + j by omega]
    · intro h
      exact⟨h 0 x rfl,fun i y hy=>(show k + (i + 1)=k + 1 + i by omega) ▸ h (i + 1) y (by simpa using hy)⟩
theorem Zid {L : σ × Nat → Option ((σ × Nat) ⊕ (τ ⊕ Bool))} {l : List α} (st : Nat → σ) {z : τ} (q : Nat → α → Bool)
    (h : ∀ i x,i < l.length → l[i]? = some x → L (st i,i)=some (if q i x=true then .inl (st (i + 1),i + 1) else .inr (.inr false))) (h2 : L (st l.length,l.length)=some (.inr (.inl z))) :
    Gk L (st 0,0)=some (if Zgk q 0 l=true then .inl z else .inr false):=by
  have key : ∀ m k,k + m=l.length → Gk L (st k,k)=some (if Zgk q k (l.drop k)=true then .inl z else .inr false):=by
    intro m
    induction m with
    | zero=>
      intro k hk
      obtain rfl : k=l.length:=by omega
      rw [Yr h2,List.drop_length];rfl
    | succ m ih=>
      intro k hk
      have hlt : k < l.length:=by omega
      have hx : l[k]? = some l[k]:=List.getElem?_eq_getElem hlt
      have hs:=h k _ hlt hx
      rw [List.drop_eq_getElem_cons hlt,Zgk]
      rcases Bool.eq_false_or_eq_true (q k l[k]) with e|e
      · rw [if_pos e] at hs;rw [Ks hs,ih (k + 1) (by omega),e,Bool.true_and]
      · rw [if_neg (by simp [e])] at hs;rw [Yr hs,e];rfl
  simpa using key l.length 0 (by omega)
theorem Zie {L : Nat → Option (Nat ⊕ (τ ⊕ Bool))} {l : List α} {z : τ} (q : Nat → α → Bool)
    (h : ∀ i x,i < l.length → l[i]? = some x → L i=some (if q i x=true then .inl (i + 1) else .inr (.inr false))) (h2 : L l.length=some (.inr (.inl z))) :
    Gk L 0=some (if Zgk q 0 l=true then .inl z else .inr false):=by
  have key : ∀ m k,k + m=l.length → Gk L k=some (if Zgk q k (l.drop k)=true then .inl z else .inr false):=by
    intro m
    induction m with
    | zero=>
      intro k hk
      obtain rfl : k=l.length:=by omega
      rw [Yr h2,List.drop_length];rfl
    | succ m ih=>
      intro k hk
      have hlt : k < l.length:=by omega
      have hx : l[k]? = some l[k]:=List.getElem?_eq_getElem hlt
      have hs:=h k _ hlt hx
      rw [List.drop_eq_getElem_cons hlt,Zgk]
      rcases Bool.eq_false_or_eq_true (q k l[k]) with e|e
      · rw [if_pos e] at hs;rw [Ks hs,ih (k + 1) (by omega),e,Bool.true_and]
      · rw [if_neg (by simp [e])] at hs;rw [Yr hs,e];rfl
  simpa using key l.length 0 (by omega)
theorem Zlx {L : Int → Option (Int ⊕ (τ ⊕ Bool))} {l : List α} {z : τ} (q : Nat → α → Bool)
    (h : ∀ (i : Nat) x,i < l.length → l[i]? = some x → L (i : Int)=some (if q i x=true then .inl ((i + 1 : Nat) : Int) else .inr (.inr false))) (h2 : L (l.length : Int)=some (.inr (.inl z))) :
    Gk L 0=some (if Zgk q 0 l=true then .inl z else .inr false):=by
  have key : ∀ m (k : Nat),k + m=l.length → Gk L (k : Int)=some (if Zgk q k (l.drop k)=true then .inl z else .inr false):=by
    intro m
    induction m with
    | zero=>
      intro k hk
      obtain rfl : k=l.length:=by omega
      rw [Yr h2,List.drop_length];rfl
    | succ m ih=>
      intro k hk
      have hlt : k < l.length:=by omega
      have hx : l[k]? = some l[k]:=List.getElem?_eq_getElem hlt
      have hs:=h k _ hlt hx
      rw [List.drop_eq_getElem_cons hlt,Zgk]
      rcases Bool.eq_false_or_eq_true (q k l[k]) with e|e
      · rw [if_pos e] at hs;rw [Ks hs,ih (k + 1) (by omega),e,Bool.true_and]
      · rw [if_neg (by simp [e])] at hs;rw [Yr hs,e];rfl
  simpa using key l.length 0 (by omega)
theorem Zif (b : α → Bool) : ∀ (l : List α) (k : Nat),match Yq (fun i x=>if b x=true then some ((i : Nat) : Int) else none) k l with
    | none=>l.any b=false
    | some e=>l.any b=true ∧ 0 ≤ e
  | [],_=>rfl
  | x :: r,k=>by
    by_cases h : b x=true
    · simp only [Yq,h,if_true,List.any_cons,Bool.true_or,true_and];omega
    · have ih:=Zif b r (k + 1)
      simp only [Bool.not_eq_true] at h
      simp only [Yq,h,Bool.false_eq_true,if_false,List.any_cons,Bool.false_or]
      exact ih
end
theorem Zly (l : List Int) (f : Int → Option Bool) (b : Int → Bool) (hf : ∀ x,f x=some (b x)) : Ka l f=some (l.any b):=by
  have h:=Zas (L:=Xx l f) (l:=l) (f:=fun i x=>if b x=true then some ((i : Nat) : Int) else none) (fun i x hi hx=>by
    simp only [Xx,hi,hx,decide_true,cond_true,Option.bind_some,hf,Bool.cond_eq_ite,Zf7,Zd8,Zc6,if_true]
    split <;> rfl) (by simp [Xx])
  simp only [Ka,Ww,h]
  have hk:=Zif b l 0
  cases he : Yq (fun i x=>if b x=true then some ((i : Nat) : Int) else none) 0 l with
  | none=>rw [he] at hk;rw [hk];rfl
  | some e=>rw [he] at hk;rw [hk.1];simp [fin,hk.2]
theorem Zig (l : List ByteArray) (f : ByteArray → Option Bool) (b : ByteArray → Bool) (hf : ∀ x,f x=some (b x)) : Ja l f=some (l.any b):=by
  have h:=Zas (L:=Xe l f) (l:=l) (f:=fun i x=>if b x=true then some ((i : Nat) : Int) else none) (fun i x hi hx=>by
    simp only [Xe,hi,hx,decide_true,cond_true,Option.bind_some,hf,Bool.cond_eq_ite,Zf7,Zd8,Zc6,if_true]
    split <;> rfl) (by simp [Xe])
  simp only [Ja,Ys,h]
  have hk:=Zif b l 0
  cases he : Yq (fun i x=>if b x=true then some ((i : Nat) : Int) else none) 0 l with
  | none=>rw [he] at hk;rw [hk];rfl
  | some e=>rw [he] at hk;rw [hk.1];simp [fin,hk.2]
def bt (n lo hi : Int) : Bool:=decide (lo ≤ n) && decide (n ≤ hi)
def wn (n m : Int) : Bool:=decide (0 ≤ n) && decide (n < m)
theorem Zbb (n lo hi : Int) : Je n lo hi=some (bt n lo hi):=rfl
theorem Hn (n m : Int) : Jf n m=some (wn n m):=rfl
theorem Znd {α : Type} {l : List α} {n : Int} (h : wn n l.length=true) : ∃ x,rdI l n=some x:=by
  simp only [wn,Bool.and_eq_true,decide_eq_true_eq] at h
  have hz : n.toNat < l.length:=by omega
  exact⟨l[n.toNat],by simp [rdI,h.1,hz]⟩
theorem Zsk {n a b : Int} (h : wn n a=true) (hab : a ≤ b) : wn n b=true:=by
  simp only [wn,Bool.and_eq_true,decide_eq_true_eq] at h ⊢;omega
def Zs7 (s : GState) (n : Int) : Int:=match rdI s.Procs n with
  | some x=>x.State
  | none=>0
def pkAt (p : GPlan) (n : Int) : Int:=match rdI p.Ports n with
  | some x=>x.Kind
  | none=>0
def mn (a b : Int) : Int:=if b < a then b else a
theorem Zsl (a b : Int) : mn a b ≤ a ∧ mn a b ≤ b:=by unfold mn;split <;> omega
def K1 (p : GPlan) (s : GState) : Bool:=decide (s.Id=p.Id)
def K2 (s : GState) : Bool:=bt s.Frame 0 2147483647 && bt s.Epoch 0 2147483647
def K3 (p : GPlan) (s : GState) : Bool:=decide (s.Procs.length=p.Procs.length) && decide (s.Ports.length=p.Ports.length) && decide (s.Pages.length=p.Pages.length) && decide ((s.Up.length : Int)=p.Events) && decide (s.Sems.length=p.Sems.length)
def k4 (x : GProc) : Bool:=decide (x.Regs[0]=0) && bt x.State 0 3 && bt x.Prio 0 255 && bt x.Wait 0 4
def K4 (s : GState) : Bool:=s.Procs.all k4
def k5 (x : GProc) : Bool:=(!decide (x.Wait=0)) == decide (x.State=2)
def K5 (s : GState) : Bool:=s.Procs.all k5
def k6 (p : GPlan) (x : GProc) : Bool:=if x.Wait=2 then wn x.Obj p.Events else if x.Wait=3 then wn x.Obj p.Sems.length else if x.Wait=4 then wn x.Obj p.Ports.length && (decide (pkAt p x.Obj=3) || decide (pkAt p x.Obj=4)) else decide (x.Obj=0)
def K6 (p : GPlan) (s : GState) : Bool:=s.Procs.all (k6 p)
def q7 (s : GState) (i : Nat) (n : Int) : Bool:=wn n s.Procs.length && !decide (n ∈ s.Ready.take i) && decide (Zs7 s n=1)
def q7b (s : GState) (i : Nat) (x : GProc) : Bool:=!decide (x.State=1) || decide (((i : Nat) : Int) ∈ s.Ready)
def K7 (s : GState) : Bool:=Zgk (q7 s) 0 s.Ready && Zgk (q7b s) 0 s.Procs
def Zsm (s : GState) (i : Nat) (t : GTimer) : Bool:=match i with
  | 0=>true
  | j + 1=>match s.Timers[j]? with
    | some y=>!(decide (t.Due < y.Due) || (decide (y.Due=t.Due) && decide (t.Proc ≤ y.Proc)))
    | none=>true
def q8 (s : GState) (i : Nat) (t : GTimer) : Bool:=wn t.Proc s.Procs.length && !decide (t.Proc ∈ (s.Timers.map GTimer.Proc).take i) && bt t.Due 0 1010000 && Zsm s i t
def K8 (s : GState) : Bool:=Zgk (q8 s) 0 s.Timers
def q9 (s : GState) (_ : Nat) (t : GTimer) : Bool:=!(wn t.Proc s.Procs.length && !decide (Zs7 s t.Proc=2))
def q9b (s : GState) (i : Nat) (x : GProc) : Bool:=!decide (x.Wait=1) || decide (((i : Nat) : Int) ∈ s.Timers.map GTimer.Proc)
def K9 (s : GState) : Bool:=Zgk (q9 s) 0 s.Timers && Zgk (q9b s) 0 s.Procs
def K10 (s : GState) : Bool:=s.Sems.all fun n=>bt n 0 255
def k11 (a : GPortPlan × GPort) : Bool:=decide ((a.2.Msgs.length : Int) ≤ a.1.Depth) && !(a.2.Msgs.any fun m=>decide (a.1.Size < (m.size : Int)))
def K11 (p : GPlan) (s : GState) : Bool:=(p.Ports.zip s.Ports).all k11
def k12 (a : GPortPlan × GPort) : Bool:=bt a.2.Age 0 255 && (decide (a.2.Age=0) || (decide (a.1.Kind=1) && decide (0 < a.2.Msgs.length)))
def K12 (p : GPlan) (s : GState) : Bool:=(p.Ports.zip s.Ports).all k12
def K13 (p : GPlan) (s : GState) : Bool:=(p.Pages.zip s.Pages).all fun a=>decide (a.1.Rights=a.2.Rights)
def upAt (s : GState) (n : Int) : Bool:=(rdI s.Up n).getD false
def smAt (s : GState) (n : Int) : Int:=(rdI s.Sems n).getD 0
def k14 (p : GPlan) (s : GState) (x : GProc) : Bool:=!(decide (x.Wait=2) && wn x.Obj (mn s.Up.length p.Events) && upAt s x.Obj)
def K14 (p : GPlan) (s : GState) : Bool:=s.Procs.all (k14 p s)
def k15 (p : GPlan) (s : GState) (x : GProc) : Bool:=!(decide (x.Wait=3) && wn x.Obj (mn s.Sems.length p.Sems.length) && !decide (smAt s x.Obj=0))
def K15 (p : GPlan) (s : GState) : Bool:=s.Procs.all (k15 p s)
def k16i (q : GPortPlan) (r : GPort) : Bool:=if q.Kind=3 then decide (r.Msgs.length=0) else if q.Kind=4 then decide ((r.Msgs.length : Int)=q.Depth) else true
def k16 (p : GPlan) (s : GState) (x : GProc) : Bool:=if decide (x.Wait=4) && wn x.Obj (mn p.Ports.length s.Ports.length) then (match rdI p.Ports x.Obj,rdI s.Ports x.Obj with
  | some q,some r=>k16i q r
  | _,_=>true) else true
def K16 (p : GPlan) (s : GState) : Bool:=s.Procs.all (k16 p s)
def k17 (a : GPortPlan × GPort) : Bool:=!(decide (a.1.Kind=2) || decide (a.1.Kind=4)) || decide (a.2.Msgs.length=0)
def K17 (p : GPlan) (s : GState) : Bool:=(p.Ports.zip s.Ports).all k17
def Zs8 (s : GState) : Prop:=s.Timers.length ≤ 140737488355328 ∧ s.Ports.length ≤ 140737488355328 ∧ s.Pages.length ≤ 140737488355328
theorem Zae (a : GValidAsked) {f : GProc → Option Bool} {b : GProc → Bool} (hf : ∀ x,f x=some (b x)) : Xd a f=some (a.s_.Procs.all b):=by
  have h:=Zie (L:=Jv a f) (l:=a.s_.Procs) (z:=()) (fun _ x=>b x) (fun i x hi hx=>by
    simp only [Jv,hi,hx,decide_true,cond_true,Option.bind_some,hf]
    rcases Bool.eq_false_or_eq_true (b x) with e|e <;> simp [e]) (by simp [Jv])
  rw [Zg3] at h
  simp only [Xd,h]
  rcases Bool.eq_false_or_eq_true (a.s_.Procs.all b) with e|e <;> simp [e]
theorem Zqu {α β : Type} (l : List α) (r : List β) : ((l.zip r).length : Int)=if (r.length : Int) < (l.length : Int) then (r.length : Int) else (l.length : Int):=by
  rw [List.length_zip];split <;> omega
theorem Ze8 (a : GValidAsked) {f : GPortPlan → GPort → Option Bool} {b : GPortPlan × GPort → Bool} (hok : Zs8 a.s_) (hf : ∀ x y,f x y=some (b (x,y))) : Kf a f=some ((a.p_.Ports.zip a.s_.Ports).all b):=by
  have hz:=Zqu a.p_.Ports a.s_.Ports
  have h:=Zlx (L:=Jx a f) (l:=a.p_.Ports.zip a.s_.Ports) (z:=()) (fun _ x=>b x) (fun i x hi hx=>by
    obtain⟨h1,h2⟩:=List.getElem?_zip_eq_some.1 hx
    have hi' : ((i : Nat) : Int) < ((a.p_.Ports.zip a.s_.Ports).length : Int):=by omega
    rw [hz] at hi'
    have hl : i < a.s_.Ports.length:=(List.getElem?_eq_some_iff.1 h2).1
    have hw : IntKind.i64.wrap ((i : Int) + 1)=((i + 1 : Nat) : Int):=by have:=hok.2.1;rw [Qo ⟨by omega,by omega⟩];rfl
    have e1 : rdI a.p_.Ports (i : Int)=some x.1:=by simp [rdI,h1]
    have e2 : rdI a.s_.Ports (i : Int)=some x.2:=by simp [rdI,h2]
    simp only [Jx,hi',e1,e2,hw,decide_true,cond_true,Option.bind_some,hf]
    rcases Bool.eq_false_or_eq_true (b x) with e|e <;> simp [e]) (by
    rw [hz];simp only [Jx,Int.lt_irrefl,decide_false,cond_false])
  rw [Zg3] at h
  simp only [Kf,h]
  rcases Bool.eq_false_or_eq_true ((a.p_.Ports.zip a.s_.Ports).all b) with e|e <;> simp [e]
theorem Zlz (a : GValidAsked) (hok : Zs8 a.s_) : Vp a=some (K13 a.p_ a.s_):=by
  have hz:=Zqu a.p_.Pages a.s_.Pages
  have h:=Zlx (L:=Jo a) (l:=a.p_.Pages.zip a.s_.Pages) (z:=()) (fun _ x=>decide (x.1.Rights=x.2.Rights)) (fun i x hi hx=>by
    obtain⟨h1,h2⟩:=List.getElem?_zip_eq_some.1 hx
    have hi' : ((i : Nat) : Int) < ((a.p_.Pages.zip a.s_.Pages).length : Int):=by omega
    rw [hz] at hi'
    have hl : i < a.s_.Pages.length:=(List.getElem?_eq_some_iff.1 h2).1
    have hw : IntKind.i64.wrap ((i : Int) + 1)=((i + 1 : Nat) : Int):=by have:=hok.2.2;rw [Qo ⟨by omega,by omega⟩];rfl
    have e1 : rdI a.p_.Pages (i : Int)=some x.1:=by simp [rdI,h1]
    have e2 : rdI a.s_.Pages (i : Int)=some x.2:=by simp [rdI,h2]
    simp only [Jo,hi',e1,e2,hw,decide_true,cond_true,Option.bind_some]
    by_cases e : x.1.Rights=x.2.Rights <;> simp [e]) (by
    rw [hz];simp only [Jo,Int.lt_irrefl,decide_false,cond_false])
  rw [Zg3] at h
  simp only [Vp,h,K13]
  generalize (List.all _ _ : Bool)=b
  rcases Bool.eq_false_or_eq_true b with e|e <;> simp [e]
theorem Zkf (x : GProc) : Uw x=some (k4 x):=by
  have h0 : rdV x.Regs 0=some x.Regs[0]:=by simp [rdV]
  simp only [Uw,h0,Zbb,Option.bind_some,k4]
  by_cases e : x.Regs[0]=0
  · rcases Bool.eq_false_or_eq_true (bt x.State 0 3) with e1 | e1 <;> rcases Bool.eq_false_or_eq_true (bt x.Prio 0 255) with e2 | e2 <;> rcases Bool.eq_false_or_eq_true (bt x.Wait 0 4) with e3 | e3 <;> simp [e,e1,e2,e3]
  · simp [e]
theorem Zl0 (p : GPlan) (s : GState) (x : GProc) : Ya ⟨p,s⟩ x=some (k6 p x):=by
  simp only [Ya,Hn,Option.bind_some,k6]
  by_cases e2 : x.Wait=2
  · simp [e2]
  · by_cases e3 : x.Wait=3
    · simp [e3]
    · by_cases e4 : x.Wait=4
      · rcases Bool.eq_false_or_eq_true (wn x.Obj p.Ports.length) with e | e
        · obtain⟨y,hy⟩:=Znd e
          have hk : pkAt p x.Obj=y.Kind:=by unfold pkAt;rw [hy]
          by_cases e5 : y.Kind=3 <;> simp [e4,e,hy,hk,e5]
        · simp [e4,e]
      · simp [e2,e3,e4]
theorem Zne (p : GPlan) (s : GState) (x : GProc) : Kl x s p=some (k14 p s x):=by
  have hm : (if p.Events < (s.Up.length : Int) then p.Events else (s.Up.length : Int))=mn s.Up.length p.Events:=rfl
  simp only [Kl,Hn,Option.bind_some,k14,hm]
  by_cases e : x.Wait=2
  · rcases Bool.eq_false_or_eq_true (wn x.Obj (mn s.Up.length p.Events)) with e1 | e1
    · obtain⟨y,hy⟩:=Znd (Zsk e1 (Zsl _ _).1)
      simp [e,e1,hy,upAt]
    · simp [e,e1]
  · simp [e]
theorem Znf (p : GPlan) (s : GState) (x : GProc) : Km x s p=some (k15 p s x):=by
  have hm : (if (p.Sems.length : Int) < (s.Sems.length : Int) then (p.Sems.length : Int) else (s.Sems.length : Int))=mn s.Sems.length p.Sems.length:=rfl
  simp only [Km,Hn,Option.bind_some,k15,hm]
  by_cases e : x.Wait=3
  · rcases Bool.eq_false_or_eq_true (wn x.Obj (mn s.Sems.length p.Sems.length)) with e1 | e1
    · obtain⟨y,hy⟩:=Znd (Zsk e1 (Zsl _ _).1)
      simp [e,e1,hy,smAt]
    · simp [e,e1]
  · simp [e]
theorem Zl1 (p : GPlan) (s : GState) (x : GProc) : Yb ⟨p,s⟩ x=some (k16 p s x):=by
  have hm : (if (s.Ports.length : Int) < (p.Ports.length : Int) then (s.Ports.length : Int) else (p.Ports.length : Int))=mn p.Ports.length s.Ports.length:=rfl
  simp only [Yb,Wa,Vz,Hn,Option.bind_some,k16,hm]
  by_cases e : x.Wait=4
  · rcases Bool.eq_false_or_eq_true (wn x.Obj (mn p.Ports.length s.Ports.length)) with e1 | e1
    · obtain⟨y,hy⟩:=Znd (Zsk e1 (Zsl _ _).1)
      obtain⟨z,hz⟩:=Znd (Zsk e1 (Zsl _ _).2)
      by_cases e3 : y.Kind=3
      · simp [e,e1,hy,hz,k16i,e3]
      · by_cases e4 : y.Kind=4 <;> simp [e,e1,hy,hz,k16i,e3,e4]
    · simp [e,e1]
  · simp [e]
theorem Zng (q : GPortPlan) (r : GPort) : Kj q r=some (k11 (q,r)):=by
  simp only [Kj,Zig r.Msgs (fun x0=>Kv x0 q) (fun m=>decide (q.Size < (m.size : Int))) (fun _=>rfl),Option.bind_some,k11]
  by_cases e : (r.Msgs.length : Int) ≤ q.Depth <;> simp [e]
theorem Znh (q : GPortPlan) (r : GPort) : Kk q r=some (k12 (q,r)):=by
  simp only [Kk,Zbb,Option.bind_some,k12]
  rcases Bool.eq_false_or_eq_true (bt r.Age 0 255) with e|e
  · by_cases e1 : r.Age=0
    · have e' : bt 0 0 255=true:=rfl
      simp [e',e1]
    · by_cases e2 : q.Kind=1 <;> simp [e,e1,e2]
  · simp [e]
theorem Zni (q : GPortPlan) (r : GPort) : Kn q r=some (k17 (q,r)):=by
  simp only [Kn,Za8,Option.bind_some,k17]
  by_cases e2 : q.Kind=2
  · simp [e2]
  · by_cases e4 : q.Kind=4 <;> simp [e2,e4]
theorem Uf {α : Type} {l : List α} {i : Nat} {x : α} (h : l[i]? = some x) : l.take (i + 1)=l.take i ++ [x]:=by rw [List.take_add_one,h];rfl
theorem Znj (p : GPlan) (s : GState) : Wo ⟨p,s⟩=some (K7 s):=by
  have h1:=Zid (L:=Jl ⟨p,s⟩) (l:=s.Ready) (fun i=>s.Ready.take i) (z:=s.Ready) (q7 s) (fun i x hi hx=>by
    simp only [Jl,Vv,hi,hx,decide_true,cond_true,Option.bind_some,Hn,q7]
    rcases Bool.eq_false_or_eq_true (wn x s.Procs.length) with e|e
    · obtain⟨y,hy⟩:=Znd e
      have hk : Zs7 s x=y.State:=by unfold Zs7;rw [hy]
      by_cases e1 : x ∈ s.Ready.take i
      · simp [e,e1]
      · by_cases e2 : y.State=1 <;> simp [e,e1,e2,hy,hk,Zgy e1,Uf hx]
    · simp [e]) (by simp [Jl])
  have h2:=Zie (L:=Jk ⟨p,s⟩ s.Ready) (l:=s.Procs) (z:=()) (q7b s) (fun i x hi hx=>by
    simp only [Jk,Vw,hi,hx,decide_true,cond_true,Option.bind_some,q7b]
    by_cases e1 : x.State=1
    · by_cases e2 : ((i : Nat) : Int) ∈ s.Ready <;> simp [e1,e2]
    · simp [e1]) (by simp [Jk])
  rw [List.take_zero] at h1
  simp only [Wo,h1,Option.bind_some,K7]
  rcases Bool.eq_false_or_eq_true (Zgk (q7 s) 0 s.Ready) with e|e
  · simp only [e,if_true,h2,Option.bind_some,Bool.true_and]
    rcases Bool.eq_false_or_eq_true (Zgk (q7b s) 0 s.Procs) with e3|e3 <;> simp [e3]
  · simp [e]
theorem Zox (p : GPlan) (s : GState) (hok : Zs8 s) : Ud ⟨p,s⟩=some (K8 s):=by
  have h1:=Zid (L:=Jw ⟨p,s⟩) (l:=s.Timers) (fun i=>(s.Timers.map GTimer.Proc).take i) (z:=()) (q8 s) (fun i x hi hx=>by
    have hxm : (s.Timers.map GTimer.Proc)[i]? = some x.Proc:=by rw [List.getElem?_map,hx];rfl
    simp only [Jw,Wu,Wv,hi,hx,decide_true,cond_true,Option.bind_some,Hn,Zbb,q8]
    rcases Bool.eq_false_or_eq_true (wn x.Proc s.Procs.length) with e|e
    · by_cases e1 : x.Proc ∈ (s.Timers.map GTimer.Proc).take i
      · simp [e,e1]
      · rcases Bool.eq_false_or_eq_true (bt x.Due 0 1010000) with e2 | e2
        · cases i with
          | zero=>simp [e,e2,Zsm,Zjr,Uf hxm]
          | succ j=>
            have hj : j < s.Timers.length:=by omega
            have hw : IntKind.i64.wrap (((j + 1 : Nat) : Int) - 1)=(j : Int):=by have:=hok.1;rw [Qo ⟨by omega,by omega⟩];omega
            obtain⟨y,hy⟩ : ∃ y,s.Timers[j]? = some y:=⟨_,List.getElem?_eq_getElem hj⟩
            have hr : rdI s.Timers (j : Int)=some y:=by simp [rdI,hy]
            have hpos : 0 < j + 1:=by omega
            rcases Bool.eq_false_or_eq_true (decide (x.Due < y.Due) || (decide (y.Due=x.Due) && decide (x.Proc ≤ y.Proc))) with e3|e3
            · simp only [e,e1,e2,e3,hw,hr,hy,hpos,Zsm,decide_true,decide_false,cond_true,cond_false,Option.bind_some,Bool.not_true,Bool.not_false,Bool.and_true,Bool.and_false,Bool.false_eq_true,if_false]
            · simp only [e,e1,e2,e3,hw,hr,hy,hpos,Zsm,decide_true,decide_false,cond_true,cond_false,Option.bind_some,Bool.not_true,Bool.not_false,Bool.and_true,if_true,Zgy e1,Uf hxm]
        · simp [e,e1,e2]
    · simp [e]) (by simp [Jw])
  rw [List.take_zero] at h1
  simp only [Ud,h1,Option.bind_some,K8]
  rcases Bool.eq_false_or_eq_true (Zgk (q8 s) 0 s.Timers) with e|e <;> simp [e]
theorem Zsn {k x : Int} {l : List Int} : x ∈ Zjr l k ↔ x ∈ l ∨ x=k:=by
  by_cases h : k ∈ l
  · rw [Zpt h]
    constructor
    · exact .inl
    · rintro (h' | rfl)
      · exact h'
      · exact h
  · rw [Zgy h];simp
theorem Zl2 {x : Int} : ∀ (l z : List Int),x ∈ l.foldl Zjr z ↔ x ∈ z ∨ x ∈ l
  | [],z=>by simp
  | y :: r,z=>by rw [List.foldl_cons,Zl2 r,Zsn];simp [or_assoc]
theorem Znk (p : GPlan) (s : GState) : Wp ⟨p,s⟩=some (K9 s):=by
  have h1:=Zid (L:=Jn ⟨p,s⟩) (l:=s.Timers) (fun i=>((s.Timers.map GTimer.Proc).take i).foldl Zjr []) (z:=(s.Timers.map GTimer.Proc).foldl Zjr []) (q9 s) (fun i x hi hx=>by
    have hxm : (s.Timers.map GTimer.Proc)[i]? = some x.Proc:=by rw [List.getElem?_map,hx];rfl
    simp only [Jn,Vx,hi,hx,decide_true,cond_true,Option.bind_some,Hn,q9,Uf hxm,List.foldl_append,List.foldl_cons,List.foldl_nil]
    rcases Bool.eq_false_or_eq_true (wn x.Proc s.Procs.length) with e|e
    · obtain⟨y,hy⟩:=Znd e
      have hk : Zs7 s x.Proc=y.State:=by unfold Zs7;rw [hy]
      by_cases e2 : y.State=2 <;> simp [e,e2,hy,hk]
    · simp [e]) (by
    have : (s.Timers.map GTimer.Proc).take s.Timers.length=s.Timers.map GTimer.Proc:=List.take_of_length_le (by simp)
    simp [Jn,this])
  have h2:=Zie (L:=Jm ⟨p,s⟩ ((s.Timers.map GTimer.Proc).foldl Zjr [])) (l:=s.Procs) (z:=()) (q9b s) (fun i x hi hx=>by
    have hm : (((i : Nat) : Int) ∈ (s.Timers.map GTimer.Proc).foldl Zjr []) ↔ ((i : Nat) : Int) ∈ s.Timers.map GTimer.Proc:=by rw [Zl2];simp
    simp only [Jm,Vy,hi,hx,decide_true,cond_true,Option.bind_some,q9b,hm]
    by_cases e1 : x.Wait=1
    · by_cases e2 : ((i : Nat) : Int) ∈ s.Timers.map GTimer.Proc
      · simp only [e1,e2,decide_true,cond_true,cond_false,Bool.not_true,Option.bind_some,Bool.or_true,if_true]
      · simp only [e1,e2,decide_true,decide_false,cond_true,cond_false,Bool.not_true,Bool.not_false,Option.bind_some,Bool.or_false,Bool.false_eq_true,if_false]
    · simp [e1]) (by simp [Jm])
  rw [List.take_zero,List.foldl_nil] at h1
  simp only [Wp,h1,Option.bind_some,K9]
  rcases Bool.eq_false_or_eq_true (Zgk (q9 s) 0 s.Timers) with e|e
  · simp only [e,if_true,h2,Option.bind_some,Bool.true_and]
    rcases Bool.eq_false_or_eq_true (Zgk (q9b s) 0 s.Procs) with e3|e3 <;> simp [e3]
  · simp [e]
theorem Zqv {α : Type} (b : α → Bool) : ∀ l : List α,(!(l.any fun x=>!(b x)))=l.all b
  | []=>rfl
  | x :: r=>by rw [List.any_cons,List.all_cons,← Zqv b r];cases b x <;> simp
def kept (p : GPlan) (s : GState) : Vector Bool 17:=#v[K1 p s,K2 s,K3 p s,K4 s,K5 s,K6 p s,K7 s,K8 s,K9 s,K10 s,K11 p s,K12 p s,K13 p s,K14 p s,K15 p s,K16 p s,K17 p s]
theorem Znl (p : GPlan) (s : GState) (hok : Zs8 s) : Wq ⟨p,s⟩=some (kept p s):=by
  have c10:=Zly s.Sems (fun x0=>Yx x0) (fun n=>!(bt n 0 255)) (fun _=>rfl)
  have e10:=Zqv (fun n=>bt n 0 255) s.Sems
  simp only [Wq,Wx,Option.bind_some,Zbb,Zae ⟨p,s⟩ Zkf,Zae ⟨p,s⟩ (f:=fun x0=>Yw x0) (b:=k5) (fun _=>rfl),Zae ⟨p,s⟩ (Zl0 p s),Znj,Zox p s hok,Znk,c10,
    Ze8 ⟨p,s⟩ hok Zng,Ze8 ⟨p,s⟩ hok Znh,Zlz ⟨p,s⟩ hok,Zae ⟨p,s⟩ (Zne p s),Zae ⟨p,s⟩ (Znf p s),Zae ⟨p,s⟩ (Zl1 p s),Ze8 ⟨p,s⟩ hok Zni,e10]
  have e2 : (bif bt s.Frame 0 2147483647 then some (bt s.Epoch 0 2147483647) else some false : Option Bool)=some (K2 s):=by
    unfold K2;rcases Bool.eq_false_or_eq_true (bt s.Frame 0 2147483647) with e | e <;> simp [e]
  have ea : ∀ a b : Bool,(bif a then some b else some false : Option Bool)=some (a && b):=fun a b=>by cases a <;> rfl
  simp only [ea,Option.bind_some]
  rfl
def brk : Nat → List Bool → List Int
  | _,[]=>[]
  | k,b :: r=>(if b=true then [] else [((k + 1 : Nat) : Int)]) ++ brk (k + 1) r
theorem Zoa (b : Bool) : ∀ (l : List Bool) (k : Nat),brk k (l ++ [b])=brk k l ++ (if b=true then [] else [((k + l.length + 1 : Nat) : Int)])
  | [],k=>by simp [brk]
  | x :: r,k=>by
    have ih:=Zoa b r (k + 1)
    rw [List.cons_append,brk,ih,brk,List.append_assoc,List.length_cons,show k + 1 + r.length + 1=k + (r.length + 1) + 1 by omega]
theorem Zqw : ∀ (l : List Bool) (k : Nat),(brk k l).length ≤ l.length
  | [],_=>Nat.le_refl _
  | x :: r,k=>by
    have:=Zqw r (k + 1)
    rw [brk,List.length_append,List.length_cons]
    split <;> simp <;> omega
def Ze9 (p : GPlan) (s : GState) : List Int:=if Zba p ≠ .nil then [0] else brk 0 (kept p s).toList
theorem Zd1 (p : GPlan) (s : GState) (hok : Zs8 s) : Wf p s=some (Ze9 p s):=by
  unfold Ze9
  by_cases h : Zba p=.nil
  rotate_left
  · rw [if_pos h]
    simp only [Wf,Hs,h,decide_false,Bool.not_false,cond_true,Option.bind_some]
  rw [if_neg (by simpa using h)]
  generalize hv : kept p s=v
  have h17 : v.toList.length=17:=by simp
  have key : ∀ m k,k + m=17 → Gk (Yp v) (brk 0 (v.toList.take k),k)=some (brk 0 v.toList):=by
    intro m
    induction m with
    | zero=>
      intro k hk
      obtain rfl : k=17:=by omega
      rw [List.take_of_length_le (by omega)]
      exact Yr (by simp [Yp])
    | succ m ih=>
      intro k hk
      have hlt : k < 17:=by omega
      have hlt' : k < v.toList.length:=by omega
      obtain⟨b,hb⟩ : ∃ b,v.toList[k]? = some b:=⟨_,List.getElem?_eq_getElem hlt'⟩
      have hrd : rdV v (k : Int)=some b:=by
        rw [Zpq];simpa using hb
      have hl:=Zqw (v.toList.take k) 0
      rw [List.length_take] at hl
      have hc : ((brk 0 (v.toList.take k)).length + [((k + 1 : Nat) : Int)].length) * 8 ≤ 140737488355328:=by
        simp only [List.length_cons,List.length_nil];omega
      have hs : Yp v (brk 0 (v.toList.take k),k)=some (.inl (brk 0 (v.toList.take (k + 1)),k + 1)):=by
        rw [Uf hb,Zoa,List.length_take,Nat.min_eq_left (by omega),Nat.zero_add]
        simp only [Yp,Hr,hlt,hrd,decide_true,cond_true,Option.bind_some,chk,hc,if_true]
        rcases Bool.eq_false_or_eq_true b with e|e <;> simp [e]
      rw [Ks hs]
      exact ih (k + 1) (by omega)
  have h0:=key 17 0 rfl
  rw [List.take_zero] at h0
  simp only [Wf,Hs,h,decide_true,Bool.not_true,cond_false,Option.bind_some,Znl p s hok,hv]
  exact (congrArg (fun o=>Option.bind o fun l=>some l) h0)
def Zso (p : GPlan) (s : GState) (last : Int) : ErrM:=match Ze9 p s with
  | []=>.nil
  | x :: _=>if last < x then .nil else if x=0 then .v Hp else .pl x Zhn
theorem Zoy (p : GPlan) (s : GState) (hok : Zs8 s) (last : Int) : Zan p s last=some (Zso p s last):=by
  simp only [Zan,Ts,Zd1 p s hok,Option.bind_some,Zso]
  cases h : Ze9 p s with
  | nil=>simp
  | cons x r=>
    by_cases e : last < x
    · simp [e]
    · by_cases e2 : x=0
      · subst e2;simp [e]
      · simp [e,e2]
theorem Zoz (p : GPlan) (s : GState) (hok : Zs8 s) : Zao p s=some (Zso p s 17):=by simp only [Zao,Zoy p s hok,Option.bind_some]
section
variable {σ ρ α : Type}
theorem Zjh {L : σ → Option (σ ⊕ ρ)} (I : σ → Prop) (Q : ρ → Prop) (μ : σ → Nat)
    (h : ∀ s,I s → (∃ s',L s=some (.inl s') ∧ I s' ∧ μ s' < μ s) ∨ (∃ r,L s=some (.inr r) ∧ Q r)) {s : σ} (h0 : I s) : ∃ r,Gk L s=some r ∧ Q r:=by
  have key : ∀ n s,μ s < n → I s → ∃ r,Gk L s=some r ∧ Q r:=by
    intro n
    induction n with
    | zero=>intro s hs;omega
    | succ n ih=>
      intro s hs hI
      rcases h s hI with ⟨s',h1,h2,h3⟩ | ⟨r,h1,h2⟩
      · obtain⟨r,h4,h5⟩:=ih s' (by omega) h2
        exact⟨r,(Ks h1).trans h4,h5⟩
      · exact⟨r,Yr h1,h2⟩
  exact key _ s (Nat.lt_succ_self _) h0
theorem Zfu {f : Nat → α → Option ErrM} (hf : ∀ i x,f i x ≠ some .nil) : ∀ {l : List α} {k : Nat},orN (Yq f k l)=.nil → ∀ i x,l[i]? = some x → f (k + i) x=none
  | [],_,_,i,x,hx=>by simp at hx
  | y :: r,k,h,i,x,hx=>by
    cases hy : f k y with
    | some e=>
      simp only [Yq,hy,orN,Option.getD_some] at h
      subst h;exact absurd hy (hf k y)
    | none=>
      simp only [Yq,hy] at h
      cases i with
      | zero=>
        have : y=x:=by simpa using hx
        subst this;exact hy
      | succ j=>
        have:=Zfu hf h j x (by simpa using hx)
        rwa [show k + 1 + j=k + (j + 1) by omega] at this
end
theorem Zg5 {a b : ErrM} (h : orE a b=.nil) : a=.nil ∧ b=.nil:=by
  unfold orE at h
  by_cases c : a=.nil
  · rw [if_pos c] at h;exact⟨c,h⟩
  · rw [if_neg c] at h;exact absurd h c
structure OkP (p : GPlan) : Prop where
  id0 : 0 ≤ p.Id
  id1 : p.Id ≤ 2147483647
  pg0 : 1 ≤ p.Pages.length
  pg1 : p.Pages.length ≤ 32
  pr0 : 1 ≤ p.Procs.length
  pr1 : p.Procs.length ≤ 8
  po1 : p.Ports.length ≤ 8
  ev0 : 0 ≤ p.Events
  ev1 : p.Events ≤ 8
  se1 : p.Sems.length ≤ 8
  prio : ∀ x ∈ p.Procs,0 ≤ x.Prio ∧ x.Prio ≤ 255
  dep : ∀ x ∈ p.Ports,1 ≤ x.Depth
  sem : ∀ n ∈ p.Sems,0 ≤ n ∧ n ≤ 255
theorem Zl3 {p : GPlan} (h : Zba p=.nil) : OkP p:=by
  unfold Zba at h
  by_cases c0 : p.Id < 0 ∨ 2147483647 < p.Id
  · rw [if_pos c0] at h;cases h
  rw [if_neg c0] at h
  obtain⟨h1,h2⟩:=Zg5 h
  obtain⟨h2,h3⟩:=Zg5 h2
  unfold Zp9 at h3
  obtain⟨h3,h4⟩:=Zg5 h3
  obtain⟨h4,_⟩:=Zg5 h4
  unfold Zlg at h1
  by_cases c1 : p.Pages.length < 1 ∨ 32 < p.Pages.length
  · rw [if_pos c1] at h1;cases h1
  unfold Zlh at h2
  by_cases c2 : p.Procs.length < 1 ∨ 8 < p.Procs.length
  · rw [if_pos c2] at h2;cases h2
  rw [if_neg c2] at h2
  unfold Zn1 at h3
  by_cases c3 : 8 < p.Ports.length
  · rw [if_pos c3] at h3;cases h3
  rw [if_neg c3] at h3
  unfold Zj8 at h4
  by_cases c4 : p.Events < 0 ∨ 8 < p.Events
  · rw [if_pos c4] at h4;cases h4
  rw [if_neg c4] at h4
  by_cases c5 : 8 < p.Sems.length
  · rw [if_pos c5] at h4;cases h4
  rw [if_neg c5] at h4
  refine⟨by omega,by omega,by omega,by omega,by omega,by omega,by omega,by omega,by omega,by omega,fun x hx=>?_,fun x hx=>?_,fun x hx=>?_⟩
  · obtain⟨i,hi⟩:=List.mem_iff_getElem?.1 hx
    have:=Zfu (f:=Zip p.Pages.length) (fun i x=>by unfold Zip;split <;> intro h <;> cases h) h2 i x hi
    unfold Zip at this
    split at this
    · cases this
    · omega
  · obtain⟨i,hi⟩:=List.mem_iff_getElem?.1 hx
    have:=Zfu (f:=Zb0) (fun i x=>by unfold Zb0;split <;> intro h <;> cases h) h3 i x hi
    unfold Zb0 at this
    rcases Zc7 x with e | ⟨g,e⟩
    · unfold Zh0 at e
      by_cases d0 : x.Kind < 1 ∨ 4 < x.Kind
      · rw [if_pos d0] at e;cases e
      rw [if_neg d0] at e
      by_cases d1 : x.Size < 1 ∨ 32 < x.Size
      · rw [if_pos d1] at e;cases e
      rw [if_neg d1] at e
      by_cases d2 : x.Depth < 1
      · rw [if_pos (.inl d2)] at e;cases e
      · omega
    · rw [e] at this;cases this
  · obtain⟨i,hi⟩:=List.mem_iff_getElem?.1 hx
    have:=Zfu (f:=Zn2) (fun i x=>by unfold Zn2;split <;> intro h <;> cases h) h4 i x hi
    unfold Zn2 at this
    split at this
    · cases this
    · omega
def Zd2 (x : GProcPlan) : GProc:=⟨Vector.replicate 16 0,IntKind.u32.wrap x.Entry,if x.Auto=true then 1 else 0,x.Prio,0,0⟩
def Gy : Nat → List GProcPlan → List Int
  | _,[]=>[]
  | k,x :: r=>(if x.Auto=true then [((k : Nat) : Int)] else []) ++ Gy (k + 1) r
theorem Zl4 (x : GProcPlan) : ∀ (l : List GProcPlan) (k : Nat),Gy k (l ++ [x])=Gy k l ++ (if x.Auto=true then [((k + l.length : Nat) : Int)] else [])
  | [],k=>by simp [Gy]
  | y :: r,k=>by
    have ih:=Zl4 x r (k + 1)
    rw [List.cons_append,Gy,ih,Gy,List.append_assoc,List.length_cons,show k + 1 + r.length=k + (r.length + 1) by omega]
theorem Zkg : ∀ (l : List GProcPlan) (k : Nat),(Gy k l).length ≤ l.length
  | [],_=>Nat.le_refl _
  | y :: r,k=>by
    have:=Zkg r (k + 1)
    rw [Gy,List.length_append,List.length_cons];split <;> simp <;> omega
theorem Zg6 : ∀ {l : List GProcPlan} {k : Nat} {n : Int},n ∈ Gy k l ↔ ∃ i x,l[i]? = some x ∧ x.Auto=true ∧ n=((k + i : Nat) : Int)
  | [],k,n=>by simp [Gy]
  | y :: r,k,n=>by
    rw [Gy,List.mem_append,Zg6]
    constructor
    · rintro (h | ⟨i,x,h1,h2,h3⟩)
      · by_cases e : y.Auto=true
        · rw [if_pos e,List.mem_singleton] at h
          exact⟨0,y,rfl,e,by simpa using h⟩
        · rw [if_neg e] at h;cases h
      · exact⟨i + 1,x,by simpa using h1,h2,by rw [h3];congr 1;omega⟩
    · rintro ⟨i,x,h1,h2,h3⟩
      cases i with
      | zero=>
        have : y=x:=by simpa using h1
        subst this
        rw [if_pos h2];exact .inl (by simpa using h3)
      | succ j=>exact .inr ⟨j,x,by simpa using h1,h2,by rw [h3];congr 1;omega⟩
theorem Zl5 : ∀ (l : List GProcPlan) (k : Nat),(Gy k l).Pairwise (· < ·)
  | [],k=>List.Pairwise.nil
  | y :: r,k=>by
    have ih:=Zl5 r (k + 1)
    rw [Gy]
    split
    · rw [List.singleton_append,List.pairwise_cons]
      refine⟨fun n hn=>?_,ih⟩
      obtain⟨i,x,_,_,h3⟩:=Zg6.1 hn
      omega
    · exact ih
theorem Zqx {l : List Int} (h : l.Pairwise (· < ·)) {i : Nat} {x : Int} (hx : l[i]? = some x) : x ∉ l.take i:=by
  intro hm
  obtain⟨j,hj,e⟩:=List.mem_take_iff_getElem.1 hm
  have hi : i < l.length:=(List.getElem?_eq_some_iff.1 hx).1
  have hji : j < i:=by omega
  have:=(List.pairwise_iff_getElem.1 h) j i (by omega) hi hji
  have hx' : l[i]=x:=by rw [List.getElem?_eq_getElem hi] at hx;exact Option.some.inj hx
  rw [e,hx'] at this;omega
def Zir (x : GPagePlan) : GPage:=⟨x.Rights,false,Zq4 (Vector.replicate 64 0) x.Init⟩
def Hc (p : GPlan) : GState:=⟨p.Id,0,0,p.Procs.map Zd2,Gy 0 p.Procs,[],List.replicate p.Events.toNat false,p.Sems,List.replicate p.Ports.length ⟨[],0⟩,p.Pages.map Zir⟩
theorem Zl6 {p : GPlan} (h : Zba p=.nil) : Gf p=some (Hc p,.nil):=by
  have ok:=Zl3 h
  have hA:=Zjh (L:=Gt p) (fun s : Nat × List GProc × List Int=>s.1 ≤ p.Procs.length ∧ s.2.1=(p.Procs.take s.1).map Zd2 ∧ s.2.2=Gy 0 (p.Procs.take s.1)) (fun r=>r=(p.Procs.map Zd2,Gy 0 p.Procs)) (fun s=>p.Procs.length - s.1) (fun s hI=>by
    obtain⟨i,l1,l2⟩:=s
    obtain⟨hi,h1,h2⟩:=hI
    simp only at hi h1 h2
    by_cases hlt : i < p.Procs.length
    · have hx : p.Procs[i]? = some p.Procs[i]:=List.getElem?_eq_getElem hlt
      generalize p.Procs[i]=x at hx
      have hl1 : l1.length=i:=by rw [h1];simp;omega
      have hl2:=Zkg (p.Procs.take i) 0
      rw [← h2,List.length_take] at hl2
      have hp:=ok.pr1
      have c1 : ∀ t : GProc,(l1.length + [t].length) * 104 ≤ 140737488355328:=fun t=>by simp only [List.length_cons,List.length_nil];omega
      have c2 : (l2.length + [((i : Nat) : Int)].length) * 8 ≤ 140737488355328:=by simp only [List.length_cons,List.length_nil];omega
      have e1 : (p.Procs.take (i + 1)).map Zd2=l1 ++ [Zd2 x]:=by rw [Uf hx,List.map_append,h1];rfl
      have e2 : Gy 0 (p.Procs.take (i + 1))=l2 ++ (if x.Auto=true then [((i : Nat) : Int)] else []):=by rw [Uf hx,Zl4,← h2,List.length_take,Nat.min_eq_left (by omega),Nat.zero_add]
      refine .inl ⟨(i + 1,l1 ++ [Zd2 x],l2 ++ (if x.Auto=true then [((i : Nat) : Int)] else [])),?_,⟨by simp only;omega,e1.symm,e2.symm⟩,by simp only;omega⟩
      simp only [Gt,Zag,hlt,hx,decide_true,cond_true,Option.bind_some,Zd2]
      rcases Bool.eq_false_or_eq_true x.Auto with e|e
      · simp only [e,cond_true,chk,c1,c2,if_true,Option.bind_some]
      · simp only [e,cond_false,chk,c1,if_true,Option.bind_some,Bool.false_eq_true,if_false,List.append_nil]
    · refine .inr ⟨(l1,l2),?_,?_⟩
      · simp only [Gt,hlt,decide_false,cond_false]
      · have : p.Procs.take i=p.Procs:=List.take_of_length_le (by omega)
        rw [this] at h1 h2;rw [h1,h2]) (s:=(0,[],[])) ⟨Nat.zero_le _,rfl,rfl⟩
  obtain⟨_,hA,rfl⟩:=hA
  have hB:=Zjh (L:=Gs p) (fun s : Nat × List GPage=>s.1 ≤ p.Pages.length ∧ s.2=(p.Pages.take s.1).map Zir) (fun r=>r=p.Pages.map Zir) (fun s=>p.Pages.length - s.1) (fun s hI=>by
    obtain⟨i,l1⟩:=s
    obtain⟨hi,h1⟩:=hI
    simp only at hi h1
    by_cases hlt : i < p.Pages.length
    · have hx : p.Pages[i]? = some p.Pages[i]:=List.getElem?_eq_getElem hlt
      generalize p.Pages[i]=x at hx
      have hl1 : l1.length=i:=by rw [h1];simp;omega
      have hp:=ok.pg1
      have c1 : ∀ t : GPage,(l1.length + [t].length) * 80 ≤ 140737488355328:=fun t=>by simp only [List.length_cons,List.length_nil];omega
      have e1 : (p.Pages.take (i + 1)).map Zir=l1 ++ [Zir x]:=by rw [Uf hx,List.map_append,h1];rfl
      refine .inl ⟨(i + 1,l1 ++ [Zir x]),?_,⟨by simp only;omega,e1.symm⟩,by simp only;omega⟩
      simp only [Gs,hlt,hx,decide_true,cond_true,Option.bind_some,chk,c1,if_true,Zir]
    · refine .inr ⟨l1,?_,?_⟩
      · simp only [Gs,hlt,decide_false,cond_false]
      · have : p.Pages.take i=p.Pages:=List.take_of_length_le (by omega)
        rw [this] at h1;rw [h1]) (s:=(0,[])) ⟨Nat.zero_le _,rfl⟩
  obtain⟨_,hB,rfl⟩:=hB
  have c0:=ok.ev0
  have c1 : p.Events.toNat * 1 ≤ 140737488355328:=by have:=ok.ev1;omega
  have c2 : (([] : List Int).length + p.Sems.length) * 8 ≤ 140737488355328:=by have:=ok.se1;simp only [List.length_nil];omega
  have c3 : p.Ports.length * 32 ≤ 140737488355328:=by have:=ok.po1;omega
  simp only [Gf,Zah,Ha,Hs,h,chk,c0,c1,c2,c3,hA,hB,decide_true,Bool.not_true,cond_false,Option.bind_some,if_true,List.nil_append]
  rfl
structure OkC (s : GState) : Prop where
  a : s.Procs.length ≤ 40
  b : s.Ready.length ≤ 40
  c : s.Timers.length ≤ 40
  d : s.Up.length ≤ 40
  e : s.Sems.length ≤ 40
  f : s.Pages.length ≤ 40
  g : s.Ports.length ≤ 40
  h : ∀ x ∈ s.Ports,x.Msgs.length ≤ 40
def Zuf (x : GProc) : Prop:=x.Regs[0]=0 ∧ (x.State=0 ∨ x.State=1) ∧ 0 ≤ x.Prio ∧ x.Prio ≤ 255 ∧ x.Wait=0 ∧ x.Obj=0
theorem Zo0 {p : GPlan} (ok : OkP p) : ∀ x ∈ p.Procs.map Zd2,Zuf x:=by
  intro x hx
  obtain⟨y,hy,rfl⟩:=List.mem_map.1 hx
  have:=ok.prio y hy
  refine⟨by simp [Zd2],?_,this.1,this.2,rfl,rfl⟩
  unfold Zd2
  by_cases e : y.Auto=true
  · exact .inr (if_pos e)
  · exact .inl (if_neg e)
theorem Zd3 {α : Type} {q : α → Bool} {l : List α} (h : ∀ x ∈ l,q x=true) : l.all q=true:=List.all_eq_true.2 h
structure Booted (p : GPlan) (s : GState) : Prop where
  fr : s.Frame=0
  ep : s.Epoch=0
  pr : ∀ x ∈ s.Procs,Zuf x
  q1 : ∀ i n,s.Ready[i]? = some n → q7 s i n=true
  q2 : ∀ i x,s.Procs[i]? = some x → x.State=1 → ((i : Nat) : Int) ∈ s.Ready
  ti : s.Timers=[]
  se : s.Sems=p.Sems
  po : ∀ x ∈ s.Ports,x=⟨[],0⟩
theorem Znm {p : GPlan} {s : GState} (ok : OkP p) (b : Booted p s) :
    K2 s=true ∧ K4 s=true ∧ K5 s=true ∧ K6 p s=true ∧ K7 s=true ∧ K8 s=true ∧ K9 s=true ∧ K10 s=true ∧ K11 p s=true ∧ K12 p s=true ∧ K14 p s=true ∧ K15 p s=true ∧ K16 p s=true ∧ K17 p s=true:=by
  obtain⟨fr,ep,pr,q1,q2,ti,se,po⟩:=b
  have hz : ∀ x ∈ p.Ports.zip s.Ports,x.1 ∈ p.Ports ∧ x.2=⟨[],0⟩:=fun x hx=>by
    have h1:=List.of_mem_zip (a:=x.1) (b:=x.2) hx
    exact⟨h1.1,po _ h1.2⟩
  refine⟨?_,?_,?_,?_,?_,?_,?_,?_,?_,?_,?_,?_,?_,?_⟩
  · unfold K2 bt;rw [fr,ep];rfl
  · refine Zd3 fun x hx=>?_
    obtain⟨h1,h2,h3,h4,h5,h6⟩:=pr x hx
    unfold k4 bt
    rw [h1,h5]
    rcases h2 with h2|h2 <;> rw [h2] <;> simp <;> omega
  · refine Zd3 fun x hx=>?_
    obtain⟨h1,h2,h3,h4,h5,h6⟩:=pr x hx
    unfold k5
    rw [h5]
    rcases h2 with h2|h2 <;> rw [h2] <;> rfl
  · refine Zd3 fun x hx=>?_
    obtain⟨h1,h2,h3,h4,h5,h6⟩:=pr x hx
    unfold k6
    rw [h5,h6];rfl
  · unfold K7
    rw [Bool.and_eq_true]
    refine⟨Zg4.2 fun i n hn=>by rw [Nat.zero_add];exact q1 i n hn,Zg4.2 fun i x hx=>?_⟩
    rw [Nat.zero_add]
    unfold q7b
    by_cases e : x.State=1
    · have:=q2 i x hx e
      rw [decide_eq_true this];simp
    · simp [e]
  · unfold K8;rw [ti];rfl
  · unfold K9;rw [ti]
    have : Zgk (q9b s) 0 s.Procs=true:=Zg4.2 fun i x hx=>by
      have h5:=(pr x (List.mem_of_getElem? hx)).2.2.2.2.1
      unfold q9b;rw [h5];rfl
    rw [this];rfl
  · unfold K10;rw [se]
    refine Zd3 fun n hn=>?_
    have:=ok.sem n hn
    unfold bt;simp;omega
  · refine Zd3 fun x hx=>?_
    obtain⟨h1,h2⟩:=hz x hx
    have:=ok.dep x.1 h1
    unfold k11;rw [h2];simp;omega
  · refine Zd3 fun x hx=>?_
    obtain⟨h1,h2⟩:=hz x hx
    unfold k12;rw [h2];rfl
  · refine Zd3 fun x hx=>?_
    have h5:=(pr x hx).2.2.2.2.1
    unfold k14;rw [h5];rfl
  · refine Zd3 fun x hx=>?_
    have h5:=(pr x hx).2.2.2.2.1
    unfold k15;rw [h5];rfl
  · refine Zd3 fun x hx=>?_
    have h5:=(pr x hx).2.2.2.2.1
    unfold k16;rw [h5];rfl
  · refine Zd3 fun x hx=>?_
    obtain⟨h1,h2⟩:=hz x hx
    unfold k17;rw [h2];simp
theorem Zsp (p : GPlan) (s : GState) (more : List GProc) (hs : s.Procs=p.Procs.map Zd2 ++ more) {i : Nat} {x : GProcPlan} (hx : p.Procs[i]? = some x) : Zs7 s ((i : Nat) : Int)=if x.Auto=true then 1 else 0:=by
  have hi : i < p.Procs.length:=(List.getElem?_eq_some_iff.1 hx).1
  have : rdI s.Procs ((i : Nat) : Int)=some (Zd2 x):=by
    unfold rdI;rw [if_pos (by omega),hs,Int.toNat_natCast,List.getElem?_append_left (by simpa using hi),List.getElem?_map,hx];rfl
  unfold Zs7;rw [this];rfl
theorem Zqy {p : GPlan} (ok : OkP p) (s : GState) (more : List GProc) (hm : ∀ x ∈ more,Zuf x ∧ x.State=0) (h1 : s.Frame=0) (h2 : s.Epoch=0) (h3 : s.Procs=p.Procs.map Zd2 ++ more) (h4 : s.Ready=Gy 0 p.Procs) (h5 : s.Timers=[]) (h6 : s.Sems=p.Sems) (h7 : ∀ x ∈ s.Ports,x=⟨[],0⟩) : Booted p s:=by
  refine⟨h1,h2,fun x hx=>?_,fun i n hn=>?_,fun i x hx hs=>?_,h5,h6,h7⟩
  · rw [h3,List.mem_append] at hx
    rcases hx with hx|hx
    · exact Zo0 ok x hx
    · exact (hm x hx).1
  · have hmem : n ∈ s.Ready:=List.mem_of_getElem? hn
    rw [h4] at hmem
    obtain⟨j,y,g1,g2,g3⟩:=Zg6.1 hmem
    rw [Nat.zero_add] at g3
    have hj : j < p.Procs.length:=(List.getElem?_eq_some_iff.1 g1).1
    have hlen : s.Procs.length=p.Procs.length + more.length:=by rw [h3];simp
    have hst:=Zsp p s more h3 g1
    rw [if_pos g2] at hst
    have hnt : n ∉ s.Ready.take i:=Zqx (by rw [h4];exact Zl5 _ _) hn
    subst g3
    unfold q7 wn
    rw [hst,decide_eq_false hnt,hlen]
    simp;omega
  · rw [h3] at hx
    by_cases hi : i < p.Procs.length
    · rw [List.getElem?_append_left (by simpa using hi),List.getElem?_map] at hx
      have hy : p.Procs[i]? = some p.Procs[i]:=List.getElem?_eq_getElem hi
      generalize p.Procs[i]=y at hy
      rw [hy] at hx
      have : Zd2 y=x:=by simpa using hx
      subst this
      rw [h4]
      refine Zg6.2 ⟨i,y,hy,?_,by rw [Nat.zero_add]⟩
      by_cases e : y.Auto=true
      · exact e
      · unfold Zd2 at hs;rw [if_neg e] at hs;cases hs
    · rw [List.getElem?_append_right (by simp;omega)] at hx
      have:=(hm x (List.mem_of_getElem? hx)).2
      rw [this] at hs;cases hs
theorem Zqz {p : GPlan} {s : GState} (h : Zba p=.nil) (b : Booted p s) (h13 : K13 p s=true) : Ze9 p s=(if K1 p s=true then [] else [1]) ++ (if K3 p s=true then [] else [3]):=by
  obtain⟨k2,k4,k5,k6,k7,k8,k9,k10,k11,k12,k14,k15,k16,k17⟩:=Znm (Zl3 h) b
  have e : (kept p s).toList=[K1 p s,true,K3 p s,true,true,true,true,true,true,true,true,true,true,true,true,true,true]:=by
    unfold kept
    rw [k2,k4,k5,k6,k7,k8,k9,k10,k11,k12,h13,k14,k15,k16,k17]
    rfl
  unfold Ze9
  rw [if_neg (by simpa using h),e]
  rcases Bool.eq_false_or_eq_true (K1 p s) with e1|e1 <;> rcases Bool.eq_false_or_eq_true (K3 p s) with e3|e3 <;> rw [e1,e3] <;> rfl
theorem Zq0 {p : GPlan} {s : GState} (h : s.Pages=p.Pages.map Zir) : K13 p s=true:=by
  unfold K13;rw [h]
  refine Zd3 fun x hx=>?_
  obtain⟨i,hi⟩:=List.mem_iff_getElem?.1 hx
  obtain⟨h1,h2⟩:=List.getElem?_zip_eq_some.1 hi
  rw [List.getElem?_map,h1] at h2
  have : Zir x.1=x.2:=by simpa using h2
  rw [← this];simp [Zir]
end Go.Proofs.YtfemfiiagjnhdaaGreatDoor
