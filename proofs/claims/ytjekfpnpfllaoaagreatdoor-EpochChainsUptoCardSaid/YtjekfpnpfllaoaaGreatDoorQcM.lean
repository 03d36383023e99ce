/- Part of a claim, shortened by a program from its texts: EpoYEc. -/
import Derived.Test.YtjekfpnpfllaoaaGreatDoorQcL
set_option linter.unusedVariables false
set_option linter.unusedSimpArgs false
set_option linter.unusedSectionVars false
namespace Go.Proofs.YtjekfpnpfllaoaaGreatDoor
open Go Go.RowKit
theorem Ze2 {α : Type} {l : List α} {i : Nat} {x : α} (h : l[i]? = some x) : l.take (i + 1)=l.take i ++ [x]:=by rw [List.take_add_one,h];rfl
section
variable {σ ρ α : Type}
theorem Ws {L : σ → Option (σ ⊕ ρ)} (I : σ → Prop) (Q : ρ → Prop) (μ : σ → Nat)
    (h : ∀ s,I s → (∃ s',L s=some (.inl s') ∧ I s' ∧ μ s' < μ s) ∨ (∃ r,L s=some (.inr r) ∧ Q r)) {s : σ} (h0 : I s) : ∃ r,Kq L s=some r ∧ Q r:=by
  have key : ∀ n s,μ s < n → I s → ∃ r,Kq L s=some r ∧ Q r:=by
    intro n
    induction n with
    | zero=>intro s hs;omega
    | succ n ih=>
      intro s hs hI
      rcases h s hI with ⟨s',h1,h2,h3⟩ | ⟨r,h1,h2⟩
      · obtain⟨r,h4,h5⟩:=ih s' (by omega) h2;exact⟨r,(Hw h1).trans h4,h5⟩
      · exact⟨r,Ue h1,h2⟩
  exact key _ s (Nat.lt_succ_self _) h0
theorem Zgs {f : Nat → α → Option ErrM} (hf : ∀ i x,f i x ≠ some .nil) : ∀ {l : List α} {k : Nat},orN (Xx f k l)=.nil → ∀ i x,l[i]? = some x → f (k + i) x=none
  | [],_,_,i,x,hx=>by simp at hx
  | y :: r,k,h,i,x,hx=>by
    cases hy : f k y with
    | some e=>
      simp only [Xx,hy,orN,Option.getD_some] at h;subst h;exact absurd hy (hf k y)
    | none=>
      simp only [Xx,hy] at h;cases i with
      | zero=>
        have : y=x:=by simpa using hx
        subst this;exact hy
      | succ j=>
        have:=Zgs hf h j x (by simpa using hx)
        rwa [show k + 1 + j=k + (j + 1) by omega] at this
end
theorem Zjc {a b : ErrM} (h : orE a b=.nil) : a=.nil ∧ b=.nil:=by
  unfold orE at h
  by_cases c : a=.nil
  · rw [if_pos c] at h;exact⟨c,h⟩
  · rw [if_neg c] at h;exact absurd h c
structure OkK (p : GPlan) : Prop where
  id0 : 0 ≤ p.Id
  id1 : p.Id ≤ 2147483647
  pg0 : 1 ≤ p.Pages.length
  pg1 : p.Pages.length ≤ 32
  pr0 : 1 ≤ p.Procs.length
  pr1 : p.Procs.length ≤ 8
  po1 : p.Ports.length ≤ 8
  ev0 : 0 ≤ p.Events
  ev1 : p.Events ≤ 8
  se1 : p.Sems.length ≤ 8
  pag : ∀ x ∈ p.Pages,0 ≤ x.Rights ∧ x.Rights ≤ 7 ∧ x.Init.size ≤ 64
  prio : ∀ x ∈ p.Procs,0 ≤ x.Prio ∧ x.Prio ≤ 255 ∧ 0 ≤ x.Entry ∧ x.Entry < 2048 ∧ x.Entry < 64 * (p.Pages.length : Int) ∧ Int.tmod x.Entry 4=0
  dep : ∀ x ∈ p.Ports,Zh4 x=.nil ∧ 1 ≤ x.Kind ∧ x.Kind ≤ 4 ∧ 1 ≤ x.Size ∧ x.Size ≤ 32 ∧ 1 ≤ x.Depth ∧ x.Depth ≤ 8 ∧ 0 ≤ x.Refresh ∧ x.Refresh ≤ 255
  bnd : Ziy p ≤ 4096
  sem : ∀ n ∈ p.Sems,0 ≤ n ∧ n ≤ 255
theorem okK_of {p : GPlan} (h : Zcm p=.nil) : OkK p:=by
  unfold Zcm at h
  by_cases c0 : p.Id < 0 ∨ 2147483647 < p.Id
  · rw [if_pos c0] at h;cases h
  rw [if_neg c0] at h;obtain⟨h1,h2⟩:=Zjc h;obtain⟨h2,h3⟩:=Zjc h2;unfold Zp3 at h3;obtain⟨h3,h4⟩:=Zjc h3;obtain⟨h4,h5⟩:=Zjc h4;unfold Ze0 at h1
  by_cases c1 : p.Pages.length < 1 ∨ 32 < p.Pages.length
  · rw [if_pos c1] at h1;cases h1
  rw [if_neg c1] at h1;have c6 : ¬ 4096 < Ziy p:=fun h=>by rw [if_pos h] at h5;cases h5
  have hw : IntKind.i64.wrap (64 * (p.Pages.length : Int))=64 * (p.Pages.length : Int):=Jw ⟨by omega,by omega⟩;unfold Ze1 at h2
  by_cases c2 : p.Procs.length < 1 ∨ 8 < p.Procs.length
  · rw [if_pos c2] at h2;cases h2
  rw [if_neg c2] at h2;unfold Zfv at h3
  by_cases c3 : 8 < p.Ports.length
  · rw [if_pos c3] at h3;cases h3
  rw [if_neg c3] at h3;unfold Zcx at h4
  by_cases c4 : p.Events < 0 ∨ 8 < p.Events
  · rw [if_pos c4] at h4;cases h4
  rw [if_neg c4] at h4
  by_cases c5 : 8 < p.Sems.length
  · rw [if_pos c5] at h4;cases h4
  rw [if_neg c5] at h4;refine⟨by omega,by omega,by omega,by omega,by omega,by omega,by omega,by omega,by omega,by omega,fun x hx=>?_,fun x hx=>?_,fun x hx=>?_,by omega,fun x hx=>?_⟩
  · obtain⟨i,hi⟩:=List.mem_iff_getElem?.1 hx;have:=Zgs (f:=Zj5) (fun i x=>by unfold Zj5;(repeat' split) <;> intro h <;> cases h) h1 i x hi;unfold Zj5 at this
    repeat' split at this
    all_goals first | (cases this;done) | omega
  · obtain⟨i,hi⟩:=List.mem_iff_getElem?.1 hx;have:=Zgs (f:=Zh6 p.Pages.length) (fun i x=>by unfold Zh6;split <;> intro h <;> cases h) h2 i x hi;unfold Zh6 at this;rw [hw] at this;split at this
    · cases this
    · omega
  · obtain⟨i,hi⟩:=List.mem_iff_getElem?.1 hx;have:=Zgs (f:=Zbo) (fun i x=>by unfold Zbo;split <;> intro h <;> cases h) h3 i x hi;unfold Zbo at this
    rcases Zd7 x with e | ⟨g,e⟩
    · refine⟨e,?_⟩;unfold Zh4 at e
      repeat' split at e
      all_goals first | (cases e;done) | omega
    · rw [e] at this;cases this
  · obtain⟨i,hi⟩:=List.mem_iff_getElem?.1 hx;have:=Zgs (f:=Zms) (fun i x=>by unfold Zms;split <;> intro h <;> cases h) h4 i x hi;unfold Zms at this;split at this
    · cases this
    · omega
section
variable {α : Type}
theorem Zj6 (q : α → Bool) : ∀ (l : List α) (k : Nat),Xx (fun _ x=>if q x=true then none else some false) k l=if l.all q=true then none else some false
  | [],_=>rfl
  | x :: r,k=>by
    have ih:=Zj6 q r (k + 1)
    rcases Bool.eq_false_or_eq_true (q x) with h|h <;> simp [Xx,h,ih]
theorem Zng {L : Nat → Option (Nat ⊕ (Unit ⊕ Bool))} {a b : List α} (q : α → α → Bool) (hl : a.length=b.length)
    (h : ∀ i x y,i < a.length → a[i]? = some x → b[i]? = some y → L i=some (if q x y=true then .inl (i + 1) else .inr (.inr false))) (h2 : L a.length=some (.inr (.inl ()))) :
    Kq L 0=some (if (a.zip b).all (fun p=>q p.1 p.2)=true then .inl () else .inr false):=by
  have hz : (a.zip b).length=a.length:=by rw [List.length_zip,← hl,Nat.min_self]
  have hL:=Ua (L:=L) (l:=a.zip b) (f:=fun _ p=>if q p.1 p.2=true then none else some false) (fun i p hi hp=>by
    obtain⟨h3,h4⟩:=List.getElem?_zip_eq_some.1 hp;rw [h i p.1 p.2 (by omega) h3 h4,Zik,Zb1,Zak]) (by rw [hz];exact h2)
  rw [hL,Zj6 (fun p : α × α=>q p.1 p.2)];split <;> rfl
theorem Zol [DecidableEq α] : ∀ {a b : List α},a.length=b.length → (((a.zip b).all fun p=>decide (p.1=p.2))=true ↔ a=b)
  | [],[],_=>by simp
  | [],y :: b,h=>by simp at h
  | x :: a,[],h=>by simp at h
  | x :: a,y :: b,h=>by
    have ih:=Zol (a:=a) (b:=b) (by simpa using h);simp only [List.zip_cons_cons,List.all_cons,Bool.and_eq_true,decide_eq_true_eq,List.cons.injEq,ih]
theorem Zgz {L : Nat → Option (Nat ⊕ (Unit ⊕ Bool))} {a b : List α} [DecidableEq α] (hl : a.length=b.length)
    (h : ∀ i x y,i < a.length → a[i]? = some x → b[i]? = some y → L i=some (if decide (x=y)=true then .inl (i + 1) else .inr (.inr false))) (h2 : L a.length=some (.inr (.inl ()))) :
    Kq L 0=some (if a=b then .inl () else .inr false):=by
  rw [Zng (fun x y=>decide (x=y)) hl h h2]
  congr 1
  by_cases e : a=b
  · rw [if_pos e,if_pos ((Zol hl).2 e)]
  · rw [if_neg e,if_neg (fun h=>e ((Zol hl).1 h))]
end
theorem Zil {α : Type} {a b : List α} (h : ¬ a.length=b.length) : ¬ a=b:=fun e=>h (by rw [e])
abbrev Zr1 : Nat:=140737488355328
def Zvp (p : GPlan) : Prop:=p.Pages.length * 24 ≤ Zr1 ∧ p.Procs.length * 24 ≤ Zr1 ∧ p.Ports.length * 32 ≤ Zr1 ∧ p.Sems.length * 8 ≤ Zr1
theorem Zp5 (a b : List Int) : Ky a b=some (decide (a=b)):=by
  by_cases hl : a.length=b.length
  · have h:=Zgz (L:=Ki a b) hl (fun i x y hi hx hy=>by
      simp only [Ki,hi,hx,hy,decide_true,cond_true,Option.bind_some]
      by_cases e : x=y <;> simp [e]) (by simp [Ki])
    simp only [Ky,hl,decide_true,Bool.not_true,cond_false,h,Option.bind_some]
    by_cases e : a=b <;> simp [e]
  · simp only [Ky,hl,decide_false,Bool.not_false,cond_true,Zil hl]
section
variable {α σ τ : Type}
def Zg5 (q : Nat → α → Bool) : Nat → List α → Bool
  | _,[]=>true
  | k,x :: r=>q k x && Zg5 q (k + 1) r
theorem Wn (q : α → Bool) : ∀ (l : List α) (k : Nat),Zg5 (fun _ x=>q x) k l=l.all q
  | [],_=>rfl
  | x :: r,k=>by simp only [Zg5,List.all_cons,Wn q r (k + 1)]
theorem Zfo {q : Nat → α → Bool} : ∀ {l : List α} {k : Nat},Zg5 q k l=true ↔ ∀ i x,l[i]? = some x → q (k + i) x=true
  | [],k=>by simp [Zg5]
  | x :: r,k=>by
    rw [Zg5,Bool.and_eq_true,Zfo];constructor
    · intro ⟨h1,h2⟩ i y hy;cases i with
      | zero=>
        have : x=y:=by simpa using hy
        subst this;exact h1
      | succ j=>have := h2 j y (by simpa using hy);rwa [show k + (j + 1)=k + 1 + j by omega]
    · intro h;exact⟨h 0 x rfl,fun i y hy=>(show k + (i + 1)=k + 1 + i by omega) ▸ h (i + 1) y (by simpa using hy)⟩
theorem Zj7 {L : σ × Nat → Option ((σ × Nat) ⊕ (τ ⊕ Bool))} {l : List α} (st : Nat → σ) {z : τ} (q : Nat → α → Bool)
    (h : ∀ i x,i < l.length → l[i]? = some x → L (st i,i)=some (if q i x=true then .inl (st (i + 1),i + 1) else .inr (.inr false))) (h2 : L (st l.length,l.length)=some (.inr (.inl z))) :
    Kq L (st 0,0)=some (if Zg5 q 0 l=true then .inl z else .inr false):=by
  have key : ∀ m k,k + m=l.length → Kq L (st k,k)=some (if Zg5 q k (l.drop k)=true then .inl z else .inr false):=by
    intro m
    induction m with
    | zero=>
      intro k hk;obtain rfl : k=l.length:=by omega
      rw [Ue h2,List.drop_length];rfl
    | succ m ih=>
      intro k hk;have hlt : k < l.length:=by omega
      have hx : l[k]? = some l[k]:=List.getElem?_eq_getElem hlt;have hs:=h k _ hlt hx;rw [List.drop_eq_getElem_cons hlt,Zg5]
      rcases Bool.eq_false_or_eq_true (q k l[k]) with e|e
      · rw [if_pos e] at hs;rw [Hw hs,ih (k + 1) (by omega),e,Bool.true_and]
      · rw [if_neg (by simp [e])] at hs;rw [Ue hs,e];rfl
  simpa using key l.length 0 (by omega)
theorem Wh {L : Nat → Option (Nat ⊕ (τ ⊕ Bool))} {l : List α} {z : τ} (q : Nat → α → Bool)
    (h : ∀ i x,i < l.length → l[i]? = some x → L i=some (if q i x=true then .inl (i + 1) else .inr (.inr false))) (h2 : L l.length=some (.inr (.inl z))) :
    Kq L 0=some (if Zg5 q 0 l=true then .inl z else .inr false):=by
  have key : ∀ m k,k + m=l.length → Kq L k=some (if Zg5 q k (l.drop k)=true then .inl z else .inr false):=by
    intro m
    induction m with
    | zero=>
      intro k hk;obtain rfl : k=l.length:=by omega
      rw [Ue h2,List.drop_length];rfl
    | succ m ih=>
      intro k hk;have hlt : k < l.length:=by omega
      have hx : l[k]? = some l[k]:=List.getElem?_eq_getElem hlt;have hs:=h k _ hlt hx;rw [List.drop_eq_getElem_cons hlt,Zg5]
      rcases Bool.eq_false_or_eq_true (q k l[k]) with e|e
      · rw [if_pos e] at hs;rw [Hw hs,ih (k + 1) (by omega),e,Bool.true_and]
      · rw [if_neg (by simp [e])] at hs;rw [Ue hs,e];rfl
  simpa using key l.length 0 (by omega)
theorem Zcn {L : Int → Option (Int ⊕ (τ ⊕ Bool))} {l : List α} {z : τ} (q : Nat → α → Bool)
    (h : ∀ (i : Nat) x,i < l.length → l[i]? = some x → L (i : Int)=some (if q i x=true then .inl ((i + 1 : Nat) : Int) else .inr (.inr false))) (h2 : L (l.length : Int)=some (.inr (.inl z))) :
    Kq L 0=some (if Zg5 q 0 l=true then .inl z else .inr false):=by
  have key : ∀ m (k : Nat),k + m=l.length → Kq L (k : Int)=some (if Zg5 q k (l.drop k)=true then .inl z else .inr false):=by
    intro m
    induction m with
    | zero=>
      intro k hk;obtain rfl : k=l.length:=by omega
      rw [Ue h2,List.drop_length];rfl
    | succ m ih=>
      intro k hk;have hlt : k < l.length:=by omega
      have hx : l[k]? = some l[k]:=List.getElem?_eq_getElem hlt;have hs:=h k _ hlt hx;rw [List.drop_eq_getElem_cons hlt,Zg5]
      rcases Bool.eq_false_or_eq_true (q k l[k]) with e|e
      · rw [if_pos e] at hs;rw [Hw hs,ih (k + 1) (by omega),e,Bool.true_and]
      · rw [if_neg (by simp [e])] at hs;rw [Ue hs,e];rfl
  simpa using key l.length 0 (by omega)
theorem Zj8 (b : α → Bool) : ∀ (l : List α) (k : Nat),match Xx (fun i x=>if b x=true then some ((i : Nat) : Int) else none) k l with
    | none=>l.any b=false
    | some e=>l.any b=true ∧ 0 ≤ e
  | [],_=>rfl
  | x :: r,k=>by
    by_cases h : b x=true
    · simp only [Xx,h,if_true,List.any_cons,Bool.true_or,true_and];omega
    · have ih:=Zj8 b r (k + 1);simp only [Bool.not_eq_true] at h;simp only [Xx,h,Bool.false_eq_true,if_false,List.any_cons,Bool.false_or];exact ih
end
theorem Znh (l : List Int) (f : Int → Option Bool) (b : Int → Bool) (hf : ∀ x,f x=some (b x)) : Jy l f=some (l.any b):=by
  have h:=Ua (L:=Xt l f) (l:=l) (f:=fun i x=>if b x=true then some ((i : Nat) : Int) else none) (fun i x hi hx=>by
    simp only [Xt,hi,hx,decide_true,cond_true,Option.bind_some,hf,Bool.cond_eq_ite,Zik,Zak,Zb1,if_true];split <;> rfl) (by simp [Xt])
  simp only [Jy,Wl,h];have hk:=Zj8 b l 0;cases he : Xx (fun i x=>if b x=true then some ((i : Nat) : Int) else none) 0 l with
  | none=>rw [he] at hk;rw [hk];rfl
  | some e=>rw [he] at hk;rw [hk.1];simp [fin,hk.2]
theorem Zj9 (l : List ByteArray) (f : ByteArray → Option Bool) (b : ByteArray → Bool) (hf : ∀ x,f x=some (b x)) : Xw l f=some (l.any b):=by
  have h:=Ua (L:=Xf l f) (l:=l) (f:=fun i x=>if b x=true then some ((i : Nat) : Int) else none) (fun i x hi hx=>by
    simp only [Xf,hi,hx,decide_true,cond_true,Option.bind_some,hf,Bool.cond_eq_ite,Zik,Zak,Zb1,if_true];split <;> rfl) (by simp [Xf])
  simp only [Xw,Yv,h];have hk:=Zj8 b l 0;cases he : Xx (fun i x=>if b x=true then some ((i : Nat) : Int) else none) 0 l with
  | none=>rw [he] at hk;rw [hk];rfl
  | some e=>rw [he] at hk;rw [hk.1];simp [fin,hk.2]
def bt (n lo hi : Int) : Bool:=decide (lo ≤ n) && decide (n ≤ hi)
def wn (n m : Int) : Bool:=decide (0 ≤ n) && decide (n < m)
theorem Zda (n lo hi : Int) : Je n lo hi=some (bt n lo hi):=rfl
theorem Th (n m : Int) : Jh n m=some (wn n m):=rfl
theorem Zhl {α : Type} {l : List α} {n : Int} (h : wn n l.length=true) : ∃ x,rdI l n=some x:=by
  simp only [wn,Bool.and_eq_true,decide_eq_true_eq] at h;have hz : n.toNat < l.length:=by omega
  exact⟨l[n.toNat],by simp [rdI,h.1,hz]⟩
theorem Zni {n a b : Int} (h : wn n a=true) (hab : a ≤ b) : wn n b=true:=by
  simp only [wn,Bool.and_eq_true,decide_eq_true_eq] at h ⊢;omega
def Zpk (s : GState) (n : Int) : Int:=match rdI s.Procs n with
  | some x=>x.State
  | none=>0
def pkAt (p : GPlan) (n : Int) : Int:=match rdI p.Ports n with
  | some x=>x.Kind
  | none=>0
def mn (a b : Int) : Int:=if b < a then b else a
theorem Znj (a b : Int) : mn a b ≤ a ∧ mn a b ≤ b:=by unfold mn;split <;> omega
theorem Zvq (a b : Int) : mn a b=mn b a:=by unfold mn;split <;> split <;> omega
def K1 (p : GPlan) (s : GState) : Bool:=decide (s.Id=p.Id)
def K2 (s : GState) : Bool:=bt s.Frame 0 2147483647 && bt s.Epoch 0 2147483647
def K3 (p : GPlan) (s : GState) : Bool:=decide (s.Procs.length=p.Procs.length) && decide (s.Ports.length=p.Ports.length) && decide (s.Pages.length=p.Pages.length) && decide ((s.Up.length : Int)=p.Events) && decide (s.Sems.length=p.Sems.length)
def k4 (x : GProc) : Bool:=decide (x.Regs[0]=0) && bt x.State 0 3 && bt x.Prio 0 255 && bt x.Wait 0 4
def K4 (s : GState) : Bool:=s.Procs.all k4
def k5 (x : GProc) : Bool:=(!decide (x.Wait=0)) == decide (x.State=2)
def K5 (s : GState) : Bool:=s.Procs.all k5
def k6 (p : GPlan) (x : GProc) : Bool:=if x.Wait=2 then wn x.Obj p.Events else if x.Wait=3 then wn x.Obj p.Sems.length else if x.Wait=4 then wn x.Obj p.Ports.length && (decide (pkAt p x.Obj=3) || decide (pkAt p x.Obj=4)) else decide (x.Obj=0)
def K6 (p : GPlan) (s : GState) : Bool:=s.Procs.all (k6 p)
def q7 (s : GState) (i : Nat) (n : Int) : Bool:=wn n s.Procs.length && !decide (n ∈ s.Ready.take i) && decide (Zpk s n=1)
def q7b (s : GState) (i : Nat) (x : GProc) : Bool:=!decide (x.State=1) || decide (((i : Nat) : Int) ∈ s.Ready)
def K7 (s : GState) : Bool:=Zg5 (q7 s) 0 s.Ready && Zg5 (q7b s) 0 s.Procs
def Zom (s : GState) (i : Nat) (t : GTimer) : Bool:=match i with
  | 0=>true
  | j + 1=>match s.Timers[j]? with
    | some y=>!(decide (t.Due < y.Due) || (decide (y.Due=t.Due) && decide (t.Proc ≤ y.Proc)))
    | none=>true
def q8 (s : GState) (i : Nat) (t : GTimer) : Bool:=wn t.Proc s.Procs.length && !decide (t.Proc ∈ (s.Timers.map GTimer.Proc).take i) && bt t.Due 0 1010000 && Zom s i t
def K8 (s : GState) : Bool:=Zg5 (q8 s) 0 s.Timers
def q9 (s : GState) (_ : Nat) (t : GTimer) : Bool:=!(wn t.Proc s.Procs.length && !decide (Zpk s t.Proc=2))
def q9b (s : GState) (i : Nat) (x : GProc) : Bool:=!decide (x.Wait=1) || decide (((i : Nat) : Int) ∈ s.Timers.map GTimer.Proc)
def K9 (s : GState) : Bool:=Zg5 (q9 s) 0 s.Timers && Zg5 (q9b s) 0 s.Procs
def K10 (s : GState) : Bool:=s.Sems.all fun n=>bt n 0 255
def k11 (a : GPortPlan × GPort) : Bool:=decide ((a.2.Msgs.length : Int) ≤ a.1.Depth) && !(a.2.Msgs.any fun m=>decide (a.1.Size < (m.size : Int)))
def K11 (p : GPlan) (s : GState) : Bool:=(p.Ports.zip s.Ports).all k11
def k12 (a : GPortPlan × GPort) : Bool:=bt a.2.Age 0 255 && (decide (a.2.Age=0) || (decide (a.1.Kind=1) && decide (0 < a.2.Msgs.length)))
def K12 (p : GPlan) (s : GState) : Bool:=(p.Ports.zip s.Ports).all k12
def K13 (p : GPlan) (s : GState) : Bool:=(p.Pages.zip s.Pages).all fun a=>decide (a.1.Rights=a.2.Rights)
def upAt (s : GState) (n : Int) : Bool:=(rdI s.Up n).getD false
def smAt (s : GState) (n : Int) : Int:=(rdI s.Sems n).getD 0
def k14 (p : GPlan) (s : GState) (x : GProc) : Bool:=!(decide (x.Wait=2) && wn x.Obj (mn s.Up.length p.Events) && upAt s x.Obj)
def K14 (p : GPlan) (s : GState) : Bool:=s.Procs.all (k14 p s)
def k15 (p : GPlan) (s : GState) (x : GProc) : Bool:=!(decide (x.Wait=3) && wn x.Obj (mn s.Sems.length p.Sems.length) && !decide (smAt s x.Obj=0))
def K15 (p : GPlan) (s : GState) : Bool:=s.Procs.all (k15 p s)
def k16i (q : GPortPlan) (r : GPort) : Bool:=if q.Kind=3 then decide (r.Msgs.length=0) else if q.Kind=4 then decide ((r.Msgs.length : Int)=q.Depth) else true
def k16 (p : GPlan) (s : GState) (x : GProc) : Bool:=if decide (x.Wait=4) && wn x.Obj (mn p.Ports.length s.Ports.length) then (match rdI p.Ports x.Obj,rdI s.Ports x.Obj with
  | some q,some r=>k16i q r
  | _,_=>true) else true
def K16 (p : GPlan) (s : GState) : Bool:=s.Procs.all (k16 p s)
def k17 (a : GPortPlan × GPort) : Bool:=!(decide (a.1.Kind=2) || decide (a.1.Kind=4)) || decide (a.2.Msgs.length=0)
def K17 (p : GPlan) (s : GState) : Bool:=(p.Ports.zip s.Ports).all k17
def Zun (s : GState) : Prop:=s.Timers.length ≤ 140737488355328 ∧ s.Ports.length ≤ 140737488355328 ∧ s.Pages.length ≤ 140737488355328
theorem Zbr (a : GValidAsked) {f : GProc → Option Bool} {b : GProc → Bool} (hf : ∀ x,f x=some (b x)) : Xe a f=some (a.s_.Procs.all b):=by
  have h:=Wh (L:=Jr a f) (l:=a.s_.Procs) (z:=()) (fun _ x=>b x) (fun i x hi hx=>by
    simp only [Jr,hi,hx,decide_true,cond_true,Option.bind_some,hf]
    rcases Bool.eq_false_or_eq_true (b x) with e|e <;> simp [e]) (by simp [Jr])
  rw [Wn] at h;simp only [Xe,h]
  rcases Bool.eq_false_or_eq_true (a.s_.Procs.all b) with e|e <;> simp [e]
theorem Zr2 {α β : Type} (l : List α) (r : List β) : ((l.zip r).length : Int)=if (r.length : Int) < (l.length : Int) then (r.length : Int) else (l.length : Int):=by
  rw [List.length_zip];split <;> omega
theorem Zhm (a : GValidAsked) {f : GPortPlan → GPort → Option Bool} {b : GPortPlan × GPort → Bool} (hok : Zun a.s_) (hf : ∀ x y,f x y=some (b (x,y))) : Kc a f=some ((a.p_.Ports.zip a.s_.Ports).all b):=by
  have hz:=Zr2 a.p_.Ports a.s_.Ports;have h:=Zcn (L:=Jt a f) (l:=a.p_.Ports.zip a.s_.Ports) (z:=()) (fun _ x=>b x) (fun i x hi hx=>by
    obtain⟨h1,h2⟩:=List.getElem?_zip_eq_some.1 hx;have hi' : ((i : Nat) : Int) < ((a.p_.Ports.zip a.s_.Ports).length : Int):=by omega
    rw [hz] at hi';have hl : i < a.s_.Ports.length:=(List.getElem?_eq_some_iff.1 h2).1;have hw : IntKind.i64.wrap ((i : Int) + 1)=((i + 1 : Nat) : Int):=by have:=hok.2.1;rw [Jw ⟨by omega,by omega⟩];rfl
    have e1 : rdI a.p_.Ports (i : Int)=some x.1:=by simp [rdI,h1]
    have e2 : rdI a.s_.Ports (i : Int)=some x.2:=by simp [rdI,h2]
    simp only [Jt,hi',e1,e2,hw,decide_true,cond_true,Option.bind_some,hf]
    rcases Bool.eq_false_or_eq_true (b x) with e|e <;> simp [e]) (by
    rw [hz];simp only [Jt,Int.lt_irrefl,decide_false,cond_false])
  rw [Wn] at h;simp only [Kc,h]
  rcases Bool.eq_false_or_eq_true ((a.p_.Ports.zip a.s_.Ports).all b) with e|e <;> simp [e]
theorem Znk (a : GValidAsked) (hok : Zun a.s_) : Vh a=some (K13 a.p_ a.s_):=by
  have hz:=Zr2 a.p_.Pages a.s_.Pages;have h:=Zcn (L:=Jm a) (l:=a.p_.Pages.zip a.s_.Pages) (z:=()) (fun _ x=>decide (x.1.Rights=x.2.Rights)) (fun i x hi hx=>by
    obtain⟨h1,h2⟩:=List.getElem?_zip_eq_some.1 hx;have hi' : ((i : Nat) : Int) < ((a.p_.Pages.zip a.s_.Pages).length : Int):=by omega
    rw [hz] at hi';have hl : i < a.s_.Pages.length:=(List.getElem?_eq_some_iff.1 h2).1;have hw : IntKind.i64.wrap ((i : Int) + 1)=((i + 1 : Nat) : Int):=by have:=hok.2.2;rw [Jw ⟨by omega,by omega⟩];rfl
    have e1 : rdI a.p_.Pages (i : Int)=some x.1:=by simp [rdI,h1]
    have e2 : rdI a.s_.Pages (i : Int)=some x.2:=by simp [rdI,h2]
    simp only [Jm,hi',e1,e2,hw,decide_true,cond_true,Option.bind_some]
    by_cases e : x.1.Rights=x.2.Rights <;> simp [e]) (by
    rw [hz];simp only [Jm,Int.lt_irrefl,decide_false,cond_false])
  rw [Wn] at h;simp only [Vh,h,K13]
  generalize (List.all _ _ : Bool)=b
  rcases Bool.eq_false_or_eq_true b with e|e <;> simp [e]
theorem Zmi (x : GProc) : Um x=some (k4 x):=by
  have h0 : rdV x.Regs 0=some x.Regs[0]:=by simp [rdV]
  simp only [Um,h0,Zda,Option.bind_some,k4]
  by_cases e : x.Regs[0]=0
  · rcases Bool.eq_false_or_eq_true (bt x.State 0 3) with e1 | e1 <;> rcases Bool.eq_false_or_eq_true (bt x.Prio 0 255) with e2 | e2 <;> rcases Bool.eq_false_or_eq_true (bt x.Wait 0 4) with e3 | e3 <;> simp [e,e1,e2,e3]
  · simp [e]
theorem Znl (p : GPlan) (s : GState) (x : GProc) : Ye ⟨p,s⟩ x=some (k6 p x):=by
  simp only [Ye,Th,Option.bind_some,k6]
  by_cases e2 : x.Wait=2
  · simp [e2]
  · by_cases e3 : x.Wait=3
    · simp [e3]
    · by_cases e4 : x.Wait=4
      · rcases Bool.eq_false_or_eq_true (wn x.Obj p.Ports.length) with e | e
        · obtain⟨y,hy⟩:=Zhl e;have hk : pkAt p x.Obj=y.Kind:=by unfold pkAt;rw [hy]
          by_cases e5 : y.Kind=3 <;> simp [e4,e,hy,hk,e5]
        · simp [e4,e]
      · simp [e2,e3,e4]
theorem Zon (p : GPlan) (s : GState) (x : GProc) : Kf x s p=some (k14 p s x):=by
  have hm : (if p.Events < (s.Up.length : Int) then p.Events else (s.Up.length : Int))=mn s.Up.length p.Events:=rfl;simp only [Kf,Th,Option.bind_some,k14,hm]
  by_cases e : x.Wait=2
  · rcases Bool.eq_false_or_eq_true (wn x.Obj (mn s.Up.length p.Events)) with e1 | e1
    · obtain⟨y,hy⟩:=Zhl (Zni e1 (Znj _ _).1);simp [e,e1,hy,upAt]
    · simp [e,e1]
  · simp [e]
theorem Zoo (p : GPlan) (s : GState) (x : GProc) : Kg x s p=some (k15 p s x):=by
  have hm : (if (p.Sems.length : Int) < (s.Sems.length : Int) then (p.Sems.length : Int) else (s.Sems.length : Int))=mn s.Sems.length p.Sems.length:=rfl;simp only [Kg,Th,Option.bind_some,k15,hm]
  by_cases e : x.Wait=3
  · rcases Bool.eq_false_or_eq_true (wn x.Obj (mn s.Sems.length p.Sems.length)) with e1 | e1
    · obtain⟨y,hy⟩:=Zhl (Zni e1 (Znj _ _).1);simp [e,e1,hy,smAt]
    · simp [e,e1]
  · simp [e]
theorem Znm (p : GPlan) (s : GState) (x : GProc) : Yf ⟨p,s⟩ x=some (k16 p s x):=by
  have hm : (if (s.Ports.length : Int) < (p.Ports.length : Int) then (s.Ports.length : Int) else (p.Ports.length : Int))=mn p.Ports.length s.Ports.length:=rfl;simp only [Yf,Vo,Vn,Th,Option.bind_some,k16,hm]
  by_cases e : x.Wait=4
  · rcases Bool.eq_false_or_eq_true (wn x.Obj (mn p.Ports.length s.Ports.length)) with e1 | e1
    · obtain⟨y,hy⟩:=Zhl (Zni e1 (Znj _ _).1);obtain⟨z,hz⟩:=Zhl (Zni e1 (Znj _ _).2)
      by_cases e3 : y.Kind=3
      · simp [e,e1,hy,hz,k16i,e3]
      · by_cases e4 : y.Kind=4 <;> simp [e,e1,hy,hz,k16i,e3,e4]
    · simp [e,e1]
  · simp [e]
theorem Zop (q : GPortPlan) (r : GPort) : Kd q r=some (k11 (q,r)):=by
  simp only [Kd,Zj9 r.Msgs (fun x0=>Kv x0 q) (fun m=>decide (q.Size < (m.size : Int))) (fun _=>rfl),Option.bind_some,k11]
  by_cases e : (r.Msgs.length : Int) ≤ q.Depth <;> simp [e]
theorem Zoq (q : GPortPlan) (r : GPort) : Ke q r=some (k12 (q,r)):=by
  simp only [Ke,Zda,Option.bind_some,k12]
  rcases Bool.eq_false_or_eq_true (bt r.Age 0 255) with e|e
  · by_cases e1 : r.Age=0
    · have e' : bt 0 0 255=true:=rfl;simp [e',e1]
    · by_cases e2 : q.Kind=1 <;> simp [e,e1,e2]
  · simp [e]
theorem Zor (q : GPortPlan) (r : GPort) : Kh q r=some (k17 (q,r)):=by
  simp only [Kh,Zc3,Option.bind_some,k17]
  by_cases e2 : q.Kind=2
  · simp [e2]
  · by_cases e4 : q.Kind=4 <;> simp [e2,e4]
theorem Vs {α : Type} {l : List α} {i : Nat} {x : α} (h : l[i]? = some x) : l.take (i + 1)=l.take i ++ [x]:=by rw [List.take_add_one,h];rfl
theorem Zos (p : GPlan) (s : GState) : Vy ⟨p,s⟩=some (K7 s):=by
  have h1:=Zj7 (L:=Jj ⟨p,s⟩) (l:=s.Ready) (fun i=>s.Ready.take i) (z:=s.Ready) (q7 s) (fun i x hi hx=>by
    simp only [Jj,Vj,hi,hx,decide_true,cond_true,Option.bind_some,Th,q7]
    rcases Bool.eq_false_or_eq_true (wn x s.Procs.length) with e|e
    · obtain⟨y,hy⟩:=Zhl e;have hk : Zpk s x=y.State:=by unfold Zpk;rw [hy]
      by_cases e1 : x ∈ s.Ready.take i
      · simp [e,e1]
      · by_cases e2 : y.State=1 <;> simp [e,e1,e2,hy,hk,Zja e1,Vs hx]
    · simp [e]) (by simp [Jj])
  have h2:=Wh (L:=Ji ⟨p,s⟩ s.Ready) (l:=s.Procs) (z:=()) (q7b s) (fun i x hi hx=>by
    simp only [Ji,Vk,hi,hx,decide_true,cond_true,Option.bind_some,q7b]
    by_cases e1 : x.State=1
    · by_cases e2 : ((i : Nat) : Int) ∈ s.Ready <;> simp [e1,e2]
    · simp [e1]) (by simp [Ji])
  rw [List.take_zero] at h1;simp only [Vy,h1,Option.bind_some,K7]
  rcases Bool.eq_false_or_eq_true (Zg5 (q7 s) 0 s.Ready) with e|e
  · simp only [e,if_true,h2,Option.bind_some,Bool.true_and]
    rcases Bool.eq_false_or_eq_true (Zg5 (q7b s) 0 s.Procs) with e3|e3 <;> simp [e3]
  · simp [e]
theorem Zp6 (p : GPlan) (s : GState) (hok : Zun s) : Wu ⟨p,s⟩=some (K8 s):=by
  have h1:=Zj7 (L:=Js ⟨p,s⟩) (l:=s.Timers) (fun i=>(s.Timers.map GTimer.Proc).take i) (z:=()) (q8 s) (fun i x hi hx=>by
    have hxm : (s.Timers.map GTimer.Proc)[i]? = some x.Proc:=by rw [List.getElem?_map,hx];rfl
    simp only [Js,Wj,Wk,hi,hx,decide_true,cond_true,Option.bind_some,Th,Zda,q8]
    rcases Bool.eq_false_or_eq_true (wn x.Proc s.Procs.length) with e|e
    · by_cases e1 : x.Proc ∈ (s.Timers.map GTimer.Proc).take i
      · simp [e,e1]
      · rcases Bool.eq_false_or_eq_true (bt x.Due 0 1010000) with e2 | e2
        · cases i with
          | zero=>simp [e,e2,Zom,Zlw,Vs hxm]
          | succ j=>
            have hj : j < s.Timers.length:=by omega
            have hw : IntKind.i64.wrap (((j + 1 : Nat) : Int) - 1)=(j : Int):=by have:=hok.1;rw [Jw ⟨by omega,by omega⟩];omega
            obtain⟨y,hy⟩ : ∃ y,s.Timers[j]? = some y:=⟨_,List.getElem?_eq_getElem hj⟩;have hr : rdI s.Timers (j : Int)=some y:=by simp [rdI,hy]
            have hpos : 0 < j + 1:=by omega
            rcases Bool.eq_false_or_eq_true (decide (x.Due < y.Due) || (decide (y.Due=x.Due) && decide (x.Proc ≤ y.Proc))) with e3|e3
            · simp only [e,e1,e2,e3,hw,hr,hy,hpos,Zom,decide_true,decide_false,cond_true,cond_false,Option.bind_some,Bool.not_true,Bool.not_false,Bool.and_true,Bool.and_false,Bool.false_eq_true,if_false]
            · simp only [e,e1,e2,e3,hw,hr,hy,hpos,Zom,decide_true,decide_false,cond_true,cond_false,Option.bind_some,Bool.not_true,Bool.not_false,Bool.and_true,if_true,Zja e1,Vs hxm]
        · simp [e,e1,e2]
    · simp [e]) (by simp [Js])
  rw [List.take_zero] at h1;simp only [Wu,h1,Option.bind_some,K8]
  rcases Bool.eq_false_or_eq_true (Zg5 (q8 s) 0 s.Timers) with e|e <;> simp [e]
theorem Ztr {k x : Int} {l : List Int} : x ∈ Zlw l k ↔ x ∈ l ∨ x=k:=by
  by_cases h : k ∈ l
  · rw [Zre h];constructor
    · exact .inl
    · rintro (h' | rfl)
      · exact h'
      · exact h
  · rw [Zja h];simp
theorem Znn {x : Int} : ∀ (l z : List Int),x ∈ l.foldl Zlw z ↔ x ∈ z ∨ x ∈ l
  | [],z=>by simp
  | y :: r,z=>by rw [List.foldl_cons,Znn r,Ztr];simp [or_assoc]
theorem Zot (p : GPlan) (s : GState) : Vz ⟨p,s⟩=some (K9 s):=by
  have h1:=Zj7 (L:=Jl ⟨p,s⟩) (l:=s.Timers) (fun i=>((s.Timers.map GTimer.Proc).take i).foldl Zlw []) (z:=(s.Timers.map GTimer.Proc).foldl Zlw []) (q9 s) (fun i x hi hx=>by
    have hxm : (s.Timers.map GTimer.Proc)[i]? = some x.Proc:=by rw [List.getElem?_map,hx];rfl
    simp only [Jl,Vl,hi,hx,decide_true,cond_true,Option.bind_some,Th,q9,Vs hxm,List.foldl_append,List.foldl_cons,List.foldl_nil]
    rcases Bool.eq_false_or_eq_true (wn x.Proc s.Procs.length) with e|e
    · obtain⟨y,hy⟩:=Zhl e;have hk : Zpk s x.Proc=y.State:=by unfold Zpk;rw [hy]
      by_cases e2 : y.State=2 <;> simp [e,e2,hy,hk]
    · simp [e]) (by
    have : (s.Timers.map GTimer.Proc).take s.Timers.length=s.Timers.map GTimer.Proc:=List.take_of_length_le (by simp);simp [Jl,this])
  have h2:=Wh (L:=Jk ⟨p,s⟩ ((s.Timers.map GTimer.Proc).foldl Zlw [])) (l:=s.Procs) (z:=()) (q9b s) (fun i x hi hx=>by
    have hm : (((i : Nat) : Int) ∈ (s.Timers.map GTimer.Proc).foldl Zlw []) ↔ ((i : Nat) : Int) ∈ s.Timers.map GTimer.Proc:=by rw [Znn];simp
    simp only [Jk,Vm,hi,hx,decide_true,cond_true,Option.bind_some,q9b,hm]
    by_cases e1 : x.Wait=1
    · by_cases e2 : ((i : Nat) : Int) ∈ s.Timers.map GTimer.Proc
      · simp only [e1,e2,decide_true,cond_true,cond_false,Bool.not_true,Option.bind_some,Bool.or_true,if_true]
      · simp only [e1,e2,decide_true,decide_false,cond_true,cond_false,Bool.not_true,Bool.not_false,Option.bind_some,Bool.or_false,Bool.false_eq_true,if_false]
    · simp [e1]) (by simp [Jk])
  rw [List.take_zero,List.foldl_nil] at h1;simp only [Vz,h1,Option.bind_some,K9]
  rcases Bool.eq_false_or_eq_true (Zg5 (q9 s) 0 s.Timers) with e|e
  · simp only [e,if_true,h2,Option.bind_some,Bool.true_and]
    rcases Bool.eq_false_or_eq_true (Zg5 (q9b s) 0 s.Procs) with e3|e3 <;> simp [e3]
  · simp [e]
theorem Zr3 {α : Type} (b : α → Bool) : ∀ l : List α,(!(l.any fun x=>!(b x)))=l.all b
  | []=>rfl
  | x :: r=>by rw [List.any_cons,List.all_cons,← Zr3 b r];cases b x <;> simp
def Zim (p : GPlan) (s : GState) : Vector Bool 17:=#v[K1 p s,K2 s,K3 p s,K4 s,K5 s,K6 p s,K7 s,K8 s,K9 s,K10 s,K11 p s,K12 p s,K13 p s,K14 p s,K15 p s,K16 p s,K17 p s]
theorem Zou (p : GPlan) (s : GState) (hok : Zun s) : Wa ⟨p,s⟩=some (Zim p s):=by
  have c10:=Znh s.Sems (fun x0=>Va x0) (fun n=>!(bt n 0 255)) (fun _=>rfl);have e10:=Zr3 (fun n=>bt n 0 255) s.Sems;simp only [Wa,Wm,Option.bind_some,Zda,Zbr ⟨p,s⟩ Zmi,Zbr ⟨p,s⟩ (f:=fun x0=>Yz x0) (b:=k5) (fun _=>rfl),Zbr ⟨p,s⟩ (Znl p s),Zos,Zp6 p s hok,Zot,c10,
    Zhm ⟨p,s⟩ hok Zop,Zhm ⟨p,s⟩ hok Zoq,Znk ⟨p,s⟩ hok,Zbr ⟨p,s⟩ (Zon p s),Zbr ⟨p,s⟩ (Zoo p s),Zbr ⟨p,s⟩ (Znm p s),Zhm ⟨p,s⟩ hok Zor,e10]
  have e2 : (bif bt s.Frame 0 2147483647 then some (bt s.Epoch 0 2147483647) else some false : Option Bool)=some (K2 s):=by
    unfold K2;rcases Bool.eq_false_or_eq_true (bt s.Frame 0 2147483647) with e | e <;> simp [e]
  have ea : ∀ a b : Bool,(bif a then some b else some false : Option Bool)=some (a && b):=fun a b=>by cases a <;> rfl
  simp only [ea,Option.bind_some];rfl
def brk : Nat → List Bool → List Int
  | _,[]=>[]
  | k,b :: r=>(if b=true then [] else [((k + 1 : Nat) : Int)]) ++ brk (k + 1) r
theorem Zmj (b : Bool) : ∀ (l : List Bool) (k : Nat),brk k (l ++ [b])=brk k l ++ (if b=true then [] else [((k + l.length + 1 : Nat) : Int)])
  | [],k=>by simp [brk]
  | x :: r,k=>by
    have ih:=Zmj b r (k + 1);rw [List.cons_append,brk,ih,brk,List.append_assoc,List.length_cons,show k + 1 + r.length + 1=k + (r.length + 1) + 1 by omega]
theorem Zov : ∀ (l : List Bool) (k : Nat),(brk k l).length ≤ l.length
  | [],_=>Nat.le_refl _
  | x :: r,k=>by
    have:=Zov r (k + 1);rw [brk,List.length_append,List.length_cons];split <;> simp <;> omega
def Wi (p : GPlan) (s : GState) : List Int:=if Zcm p ≠ .nil then [0] else brk 0 (Zim p s).toList
theorem Zno (p : GPlan) (s : GState) (hok : Zun s) : Hf p s=some (Wi p s):=by
  unfold Wi
  by_cases h : Zcm p=.nil
  rotate_left
  · rw [if_pos h];simp only [Hf,Zlk,h,decide_false,Bool.not_false,cond_true,Option.bind_some]
  rw [if_neg (by simpa using h)]
  generalize hv : Zim p s=v
  have h17 : v.toList.length=17:=by simp
  have key : ∀ m k,k + m=17 → Kq (Yp v) (brk 0 (v.toList.take k),k)=some (brk 0 v.toList):=by
    intro m
    induction m with
    | zero=>
      intro k hk;obtain rfl : k=17:=by omega
      rw [List.take_of_length_le (by omega)];exact Ue (by simp [Yp])
    | succ m ih=>
      intro k hk;have hlt : k < 17:=by omega
      have hlt' : k < v.toList.length:=by omega
      obtain⟨b,hb⟩ : ∃ b,v.toList[k]? = some b:=⟨_,List.getElem?_eq_getElem hlt'⟩;have hrd : rdV v (k : Int)=some b:=by
        rw [Zoc];simpa using hb
      have hl:=Zov (v.toList.take k) 0;rw [List.length_take] at hl;have hc : ((brk 0 (v.toList.take k)).length + [((k + 1 : Nat) : Int)].length) * 8 ≤ 140737488355328:=by
        simp only [List.length_cons,List.length_nil];omega
      have hs : Yp v (brk 0 (v.toList.take k),k)=some (.inl (brk 0 (v.toList.take (k + 1)),k + 1)):=by
        rw [Vs hb,Zmj,List.length_take,Nat.min_eq_left (by omega),Nat.zero_add];simp only [Yp,Tm,hlt,hrd,decide_true,cond_true,Option.bind_some,chk,hc,if_true]
        rcases Bool.eq_false_or_eq_true b with e|e <;> simp [e]
      rw [Hw hs];exact ih (k + 1) (by omega)
  have h0:=key 17 0 rfl;rw [List.take_zero] at h0;simp only [Hf,Zlk,h,decide_true,Bool.not_true,cond_false,Option.bind_some,Zou p s hok,hv];exact (congrArg (fun o=>Option.bind o fun l=>some l) h0)
def Zk1 (p : GPlan) (s : GState) (last : Int) : ErrM:=match Wi p s with
  | []=>.nil
  | x :: _=>if last < x then .nil else if x=0 then .v Zb3 else .pl x Ts
theorem Zp7 (p : GPlan) (s : GState) (hok : Zun s) (last : Int) : Zb7 p s last=some (Zk1 p s last):=by
  simp only [Zb7,Za1,Zno p s hok,Option.bind_some,Zk1];cases h : Wi p s with
  | nil=>simp
  | cons x r=>
    by_cases e : last < x
    · simp [e]
    · by_cases e2 : x=0
      · subst e2;simp [e]
      · simp [e,e2]
theorem Zin (p : GPlan) (s : GState) (hok : Zun s) : Zat p s=some (Zk1 p s 17):=by simp only [Zat,Zp7 p s hok,Option.bind_some]
theorem cState : (ErrM.v Ts).code=9:=by decide
theorem Zr4 : ∀ (l : List Bool) (k : Nat) (x : Int),x ∈ brk k l → (k : Int) + 1 ≤ x ∧ x ≤ k + l.length
  | [],k,x,h=>by cases h
  | b :: r,k,x,h=>by
    rw [brk,List.mem_append] at h
    rcases h with h|h
    · split at h
      · cases h
      · rw [List.mem_singleton] at h;subst h;simp;omega
    · have:=Zr4 r (k + 1) x h;simp only [List.length_cons];omega
section
variable {σ ρ α : Type}
theorem Ze3 {L : σ → Option (σ ⊕ ρ)} (I : σ → Prop) (Q : ρ → Prop) (μ : σ → Nat)
    (h : ∀ s,I s → (∃ s',L s=some (.inl s') ∧ I s' ∧ μ s' < μ s) ∨ (∃ r,L s=some (.inr r) ∧ Q r)) {s : σ} (h0 : I s) : ∃ r,Kq L s=some r ∧ Q r:=by
  have key : ∀ n s,μ s < n → I s → ∃ r,Kq L s=some r ∧ Q r:=by
    intro n
    induction n with
    | zero=>intro s hs;omega
    | succ n ih=>
      intro s hs hI
      rcases h s hI with ⟨s',h1,h2,h3⟩ | ⟨r,h1,h2⟩
      · obtain⟨r,h4,h5⟩:=ih s' (by omega) h2;exact⟨r,(Hw h1).trans h4,h5⟩
      · exact⟨r,Ue h1,h2⟩
  exact key _ s (Nat.lt_succ_self _) h0
theorem Zh7 {f : Nat → α → Option ErrM} (hf : ∀ i x,f i x ≠ some .nil) : ∀ {l : List α} {k : Nat},orN (Xx f k l)=.nil → ∀ i x,l[i]? = some x → f (k + i) x=none
  | [],_,_,i,x,hx=>by simp at hx
  | y :: r,k,h,i,x,hx=>by
    cases hy : f k y with
    | some e=>
      simp only [Xx,hy,orN,Option.getD_some] at h;subst h;exact absurd hy (hf k y)
    | none=>
      simp only [Xx,hy] at h;cases i with
      | zero=>
        have : y=x:=by simpa using hx
        subst this;exact hy
      | succ j=>
        have:=Zh7 hf h j x (by simpa using hx)
        rwa [show k + 1 + j=k + (j + 1) by omega] at this
end
theorem Zjd {a b : ErrM} (h : orE a b=.nil) : a=.nil ∧ b=.nil:=by
  unfold orE at h
  by_cases c : a=.nil
  · rw [if_pos c] at h;exact⟨c,h⟩
  · rw [if_neg c] at h;exact absurd h c
structure OkP (p : GPlan) : Prop where
  id0 : 0 ≤ p.Id
  id1 : p.Id ≤ 2147483647
  pg0 : 1 ≤ p.Pages.length
  pg1 : p.Pages.length ≤ 32
  pr0 : 1 ≤ p.Procs.length
  pr1 : p.Procs.length ≤ 8
  po1 : p.Ports.length ≤ 8
  ev0 : 0 ≤ p.Events
  ev1 : p.Events ≤ 8
  se1 : p.Sems.length ≤ 8
  prio : ∀ x ∈ p.Procs,0 ≤ x.Prio ∧ x.Prio ≤ 255
  dep : ∀ x ∈ p.Ports,1 ≤ x.Depth
  sem : ∀ n ∈ p.Sems,0 ≤ n ∧ n ≤ 255
theorem Znp {p : GPlan} (h : Zcm p=.nil) : OkP p:=by
  unfold Zcm at h
  by_cases c0 : p.Id < 0 ∨ 2147483647 < p.Id
  · rw [if_pos c0] at h;cases h
  rw [if_neg c0] at h;obtain⟨h1,h2⟩:=Zjd h;obtain⟨h2,h3⟩:=Zjd h2;unfold Zp3 at h3;obtain⟨h3,h4⟩:=Zjd h3;obtain⟨h4,_⟩:=Zjd h4;unfold Ze0 at h1
  by_cases c1 : p.Pages.length < 1 ∨ 32 < p.Pages.length
  · rw [if_pos c1] at h1;cases h1
  unfold Ze1 at h2
  by_cases c2 : p.Procs.length < 1 ∨ 8 < p.Procs.length
  · rw [if_pos c2] at h2;cases h2
  rw [if_neg c2] at h2;unfold Zfv at h3
  by_cases c3 : 8 < p.Ports.length
  · rw [if_pos c3] at h3;cases h3
  rw [if_neg c3] at h3;unfold Zcx at h4
  by_cases c4 : p.Events < 0 ∨ 8 < p.Events
  · rw [if_pos c4] at h4;cases h4
  rw [if_neg c4] at h4
  by_cases c5 : 8 < p.Sems.length
  · rw [if_pos c5] at h4;cases h4
  rw [if_neg c5] at h4;refine⟨by omega,by omega,by omega,by omega,by omega,by omega,by omega,by omega,by omega,by omega,fun x hx=>?_,fun x hx=>?_,fun x hx=>?_⟩
  · obtain⟨i,hi⟩:=List.mem_iff_getElem?.1 hx;have:=Zh7 (f:=Zh6 p.Pages.length) (fun i x=>by unfold Zh6;split <;> intro h <;> cases h) h2 i x hi;unfold Zh6 at this;split at this
    · cases this
    · omega
  · obtain⟨i,hi⟩:=List.mem_iff_getElem?.1 hx;have:=Zh7 (f:=Zbo) (fun i x=>by unfold Zbo;split <;> intro h <;> cases h) h3 i x hi;unfold Zbo at this
    rcases Zd7 x with e | ⟨g,e⟩
    · unfold Zh4 at e
      by_cases d0 : x.Kind < 1 ∨ 4 < x.Kind
      · rw [if_pos d0] at e;cases e
      rw [if_neg d0] at e
      by_cases d1 : x.Size < 1 ∨ 32 < x.Size
      · rw [if_pos d1] at e;cases e
      rw [if_neg d1] at e
      by_cases d2 : x.Depth < 1
      · rw [if_pos (.inl d2)] at e;cases e
      · omega
    · rw [e] at this;cases this
  · obtain⟨i,hi⟩:=List.mem_iff_getElem?.1 hx;have:=Zh7 (f:=Zms) (fun i x=>by unfold Zms;split <;> intro h <;> cases h) h4 i x hi;unfold Zms at this;split at this
    · cases this
    · omega
def Zhn (x : GProcPlan) : GProc:=⟨Vector.replicate 16 0,IntKind.u32.wrap x.Entry,if x.Auto=true then 1 else 0,x.Prio,0,0⟩
def Hv : Nat → List GProcPlan → List Int
  | _,[]=>[]
  | k,x :: r=>(if x.Auto=true then [((k : Nat) : Int)] else []) ++ Hv (k + 1) r
theorem Znq (x : GProcPlan) : ∀ (l : List GProcPlan) (k : Nat),Hv k (l ++ [x])=Hv k l ++ (if x.Auto=true then [((k + l.length : Nat) : Int)] else [])
  | [],k=>by simp [Hv]
  | y :: r,k=>by
    have ih:=Znq x r (k + 1);rw [List.cons_append,Hv,ih,Hv,List.append_assoc,List.length_cons,show k + 1 + r.length=k + (r.length + 1) by omega]
theorem Zmk : ∀ (l : List GProcPlan) (k : Nat),(Hv k l).length ≤ l.length
  | [],_=>Nat.le_refl _
  | y :: r,k=>by
    have:=Zmk r (k + 1);rw [Hv,List.length_append,List.length_cons];split <;> simp <;> omega
theorem Zje : ∀ {l : List GProcPlan} {k : Nat} {n : Int},n ∈ Hv k l ↔ ∃ i x,l[i]? = some x ∧ x.Auto=true ∧ n=((k + i : Nat) : Int)
  | [],k,n=>by simp [Hv]
  | y :: r,k,n=>by
    rw [Hv,List.mem_append,Zje];constructor
    · rintro (h | ⟨i,x,h1,h2,h3⟩)
      · by_cases e : y.Auto=true
        · rw [if_pos e,List.mem_singleton] at h;exact⟨0,y,rfl,e,by simpa using h⟩
        · rw [if_neg e] at h;cases h
      · exact⟨i + 1,x,by simpa using h1,h2,by rw [h3];congr 1;omega⟩
    · rintro ⟨i,x,h1,h2,h3⟩
      cases i with
      | zero=>
        have : y=x:=by simpa using h1
        subst this;rw [if_pos h2];exact .inl (by simpa using h3)
      | succ j=>exact .inr ⟨j,x,by simpa using h1,h2,by rw [h3];congr 1;omega⟩
theorem Znr : ∀ (l : List GProcPlan) (k : Nat),(Hv k l).Pairwise (· < ·)
  | [],k=>List.Pairwise.nil
  | y :: r,k=>by
    have ih:=Znr r (k + 1);rw [Hv];split
    · rw [List.singleton_append,List.pairwise_cons];refine⟨fun n hn=>?_,ih⟩;obtain⟨i,x,_,_,h3⟩:=Zje.1 hn;omega
    · exact ih
theorem Zr5 {l : List Int} (h : l.Pairwise (· < ·)) {i : Nat} {x : Int} (hx : l[i]? = some x) : x ∉ l.take i:=by
  intro hm;obtain⟨j,hj,e⟩:=List.mem_take_iff_getElem.1 hm;have hi : i < l.length:=(List.getElem?_eq_some_iff.1 hx).1;have hji : j < i:=by omega
  have:=(List.pairwise_iff_getElem.1 h) j i (by omega) hi hji;have hx' : l[i]=x:=by rw [List.getElem?_eq_getElem hi] at hx;exact Option.some.inj hx
  rw [e,hx'] at this;omega
def Ze4 (x : GPagePlan) : GPage:=⟨x.Rights,false,cpyV (Vector.replicate 64 0) x.Init⟩
def Ko (p : GPlan) : GState:=⟨p.Id,0,0,p.Procs.map Zhn,Hv 0 p.Procs,[],List.replicate p.Events.toNat false,p.Sems,List.replicate p.Ports.length ⟨[],0⟩,p.Pages.map Ze4⟩
structure OkC (s : GState) : Prop where
  a : s.Procs.length ≤ 40
  b : s.Ready.length ≤ 40
  c : s.Timers.length ≤ 40
  d : s.Up.length ≤ 40
  e : s.Sems.length ≤ 40
  f : s.Pages.length ≤ 40
  g : s.Ports.length ≤ 40
  h : ∀ x ∈ s.Ports,x.Msgs.length ≤ 40
def Zvr (x : GProc) : Prop:=x.Regs[0]=0 ∧ (x.State=0 ∨ x.State=1) ∧ 0 ≤ x.Prio ∧ x.Prio ≤ 255 ∧ x.Wait=0 ∧ x.Obj=0
theorem Zp8 {p : GPlan} (ok : OkP p) : ∀ x ∈ p.Procs.map Zhn,Zvr x:=by
  intro x hx;obtain⟨y,hy,rfl⟩:=List.mem_map.1 hx;have:=ok.prio y hy;refine⟨by simp [Zhn],?_,this.1,this.2,rfl,rfl⟩;unfold Zhn
  by_cases e : y.Auto=true
  · exact .inr (if_pos e)
  · exact .inl (if_neg e)
theorem Zgt {α : Type} {q : α → Bool} {l : List α} (h : ∀ x ∈ l,q x=true) : l.all q=true:=List.all_eq_true.2 h
structure Booted (p : GPlan) (s : GState) : Prop where
  fr : s.Frame=0
  ep : s.Epoch=0
  pr : ∀ x ∈ s.Procs,Zvr x
  q1 : ∀ i n,s.Ready[i]? = some n → q7 s i n=true
  q2 : ∀ i x,s.Procs[i]? = some x → x.State=1 → ((i : Nat) : Int) ∈ s.Ready
  ti : s.Timers=[]
  se : s.Sems=p.Sems
  po : ∀ x ∈ s.Ports,x=⟨[],0⟩
theorem Zow {p : GPlan} {s : GState} (ok : OkP p) (b : Booted p s) :
    K2 s=true ∧ K4 s=true ∧ K5 s=true ∧ K6 p s=true ∧ K7 s=true ∧ K8 s=true ∧ K9 s=true ∧ K10 s=true ∧ K11 p s=true ∧ K12 p s=true ∧ K14 p s=true ∧ K15 p s=true ∧ K16 p s=true ∧ K17 p s=true:=by
  obtain⟨fr,ep,pr,q1,q2,ti,se,po⟩:=b;have hz : ∀ x ∈ p.Ports.zip s.Ports,x.1 ∈ p.Ports ∧ x.2=⟨[],0⟩:=fun x hx=>by
    have h1:=List.of_mem_zip (a:=x.1) (b:=x.2) hx;exact⟨h1.1,po _ h1.2⟩
  refine⟨?_,?_,?_,?_,?_,?_,?_,?_,?_,?_,?_,?_,?_,?_⟩
  · unfold K2 bt;rw [fr,ep];rfl
  · refine Zgt fun x hx=>?_
    obtain⟨h1,h2,h3,h4,h5,h6⟩:=pr x hx;unfold k4 bt;rw [h1,h5]
    rcases h2 with h2|h2 <;> rw [h2] <;> simp <;> omega
  · refine Zgt fun x hx=>?_
    obtain⟨h1,h2,h3,h4,h5,h6⟩:=pr x hx;unfold k5;rw [h5]
    rcases h2 with h2|h2 <;> rw [h2] <;> rfl
  · refine Zgt fun x hx=>?_
    obtain⟨h1,h2,h3,h4,h5,h6⟩:=pr x hx;unfold k6;rw [h5,h6];rfl
  · unfold K7;rw [Bool.and_eq_true];refine⟨Zfo.2 fun i n hn=>by rw [Nat.zero_add];exact q1 i n hn,Zfo.2 fun i x hx=>?_⟩;rw [Nat.zero_add];unfold q7b
    by_cases e : x.State=1
    · have:=q2 i x hx e;rw [decide_eq_true this];simp
    · simp [e]
  · unfold K8;rw [ti];rfl
  · unfold K9;rw [ti];have : Zg5 (q9b s) 0 s.Procs=true:=Zfo.2 fun i x hx=>by
      have h5:=(pr x (List.mem_of_getElem? hx)).2.2.2.2.1;unfold q9b;rw [h5];rfl
    rw [this];rfl
  · unfold K10;rw [se];refine Zgt fun n hn=>?_
    have:=ok.sem n hn;unfold bt;simp;omega
  · refine Zgt fun x hx=>?_
    obtain⟨h1,h2⟩:=hz x hx;have:=ok.dep x.1 h1;unfold k11;rw [h2];simp;omega
  · refine Zgt fun x hx=>?_
    obtain⟨h1,h2⟩:=hz x hx;unfold k12;rw [h2];rfl
  · refine Zgt fun x hx=>?_
    have h5:=(pr x hx).2.2.2.2.1;unfold k14;rw [h5];rfl
  · refine Zgt fun x hx=>?_
    have h5:=(pr x hx).2.2.2.2.1;unfold k15;rw [h5];rfl
  · refine Zgt fun x hx=>?_
    have h5:=(pr x hx).2.2.2.2.1;unfold k16;rw [h5];rfl
  · refine Zgt fun x hx=>?_
    obtain⟨h1,h2⟩:=hz x hx;unfold k17;rw [h2];simp
theorem Zts (p : GPlan) (s : GState) (more : List GProc) (hs : s.Procs=p.Procs.map Zhn ++ more) {i : Nat} {x : GProcPlan} (hx : p.Procs[i]? = some x) : Zpk s ((i : Nat) : Int)=if x.Auto=true then 1 else 0:=by
  have hi : i < p.Procs.length:=(List.getElem?_eq_some_iff.1 hx).1;have : rdI s.Procs ((i : Nat) : Int)=some (Zhn x):=by
    unfold rdI;rw [if_pos (by omega),hs,Int.toNat_natCast,List.getElem?_append_left (by simpa using hi),List.getElem?_map,hx];rfl
  unfold Zpk;rw [this];rfl
theorem Zr6 {p : GPlan} (ok : OkP p) (s : GState) (more : List GProc) (hm : ∀ x ∈ more,Zvr x ∧ x.State=0) (h1 : s.Frame=0) (h2 : s.Epoch=0) (h3 : s.Procs=p.Procs.map Zhn ++ more) (h4 : s.Ready=Hv 0 p.Procs) (h5 : s.Timers=[]) (h6 : s.Sems=p.Sems) (h7 : ∀ x ∈ s.Ports,x=⟨[],0⟩) : Booted p s:=by
  refine⟨h1,h2,fun x hx=>?_,fun i n hn=>?_,fun i x hx hs=>?_,h5,h6,h7⟩
  · rw [h3,List.mem_append] at hx
    rcases hx with hx|hx
    · exact Zp8 ok x hx
    · exact (hm x hx).1
  · have hmem : n ∈ s.Ready:=List.mem_of_getElem? hn;rw [h4] at hmem;obtain⟨j,y,g1,g2,g3⟩:=Zje.1 hmem;rw [Nat.zero_add] at g3;have hj : j < p.Procs.length:=(List.getElem?_eq_some_iff.1 g1).1;have hlen : s.Procs.length=p.Procs.length + more.length:=by rw [h3];simp
    have hst:=Zts p s more h3 g1;rw [if_pos g2] at hst;have hnt : n ∉ s.Ready.take i:=Zr5 (by rw [h4];exact Znr _ _) hn;subst g3;unfold q7 wn;rw [hst,decide_eq_false hnt,hlen];simp;omega
  · rw [h3] at hx
    by_cases hi : i < p.Procs.length
    · rw [List.getElem?_append_left (by simpa using hi),List.getElem?_map] at hx;have hy : p.Procs[i]? = some p.Procs[i]:=List.getElem?_eq_getElem hi
      generalize p.Procs[i]=y at hy
      rw [hy] at hx;have : Zhn y=x:=by simpa using hx
      subst this;rw [h4];refine Zje.2 ⟨i,y,hy,?_,by rw [Nat.zero_add]⟩
      by_cases e : y.Auto=true
      · exact e
      · unfold Zhn at hs;rw [if_neg e] at hs;cases hs
    · rw [List.getElem?_append_right (by simp;omega)] at hx;have:=(hm x (List.mem_of_getElem? hx)).2;rw [this] at hs;cases hs
theorem Zr7 {p : GPlan} {s : GState} (h : Zcm p=.nil) (b : Booted p s) (h13 : K13 p s=true) : Wi p s=(if K1 p s=true then [] else [1]) ++ (if K3 p s=true then [] else [3]):=by
  obtain⟨k2,k4,k5,k6,k7,k8,k9,k10,k11,k12,k14,k15,k16,k17⟩:=Zow (Znp h) b;have e : (Zim p s).toList=[K1 p s,true,K3 p s,true,true,true,true,true,true,true,true,true,true,true,true,true,true]:=by
    unfold Zim;rw [k2,k4,k5,k6,k7,k8,k9,k10,k11,k12,h13,k14,k15,k16,k17];rfl
  unfold Wi;rw [if_neg (by simpa using h),e]
  rcases Bool.eq_false_or_eq_true (K1 p s) with e1|e1 <;> rcases Bool.eq_false_or_eq_true (K3 p s) with e3|e3 <;> rw [e1,e3] <;> rfl
theorem Zr8 {p : GPlan} {s : GState} (h : s.Pages=p.Pages.map Ze4) : K13 p s=true:=by
  unfold K13;rw [h];refine Zgt fun x hx=>?_
  obtain⟨i,hi⟩:=List.mem_iff_getElem?.1 hx;obtain⟨h1,h2⟩:=List.getElem?_zip_eq_some.1 hi;rw [List.getElem?_map,h1] at h2;have : Ze4 x.1=x.2:=by simpa using h2
  rw [← this];simp [Ze4]
def Zpl (s : GState) : Prop:=Zun s ∧ s.Procs.length ≤ 140737488355328 ∧ s.Ready.length ≤ 140737488355328
theorem Zr9 (s : GState) : Zdt s=some (K4 s):=by
  have h:=Wh (L:=Hs s) (l:=s.Procs) (z:=()) (fun _ x=>k4 x) (fun i x hi hx=>by
    have h0 : rdV x.Regs 0=some x.Regs[0]:=by simp [rdV]
    have hb : (((((((!decide (x.Regs[0]=0)) || decide (x.State < 0)) || decide (3 < x.State)) || decide (x.Prio < 0)) || decide (255 < x.Prio)) || decide (x.Wait < 0)) || decide (4 < x.Wait)) = !(k4 x):=by
      unfold k4 bt
      generalize x.Regs[0]=r
      by_cases e0 : r=0 <;> by_cases e1 : 0 ≤ x.State <;> by_cases e2 : x.State ≤ 3 <;> by_cases e3 : 0 ≤ x.Prio <;> by_cases e4 : x.Prio ≤ 255 <;> by_cases e5 : 0 ≤ x.Wait <;> by_cases e6 : x.Wait ≤ 4 <;> simp [e0,e1,e2,e3,e4,e5,e6,Int.not_le.1,Int.not_lt.2] <;> omega
    simp only [Hs,hi,hx,decide_true,cond_true,Option.bind_some,h0,hb]
    rcases Bool.eq_false_or_eq_true (k4 x) with e|e <;> simp [e]) (by simp [Hs])
  rw [Wn] at h;simp only [Zdt,h,K4]
  rcases Bool.eq_false_or_eq_true (s.Procs.all k4) with e|e <;> simp [e]
theorem Zsa (s : GState) : Zdu s=some (K5 s):=by
  have h:=Wh (L:=Ht s) (l:=s.Procs) (z:=()) (fun _ x=>k5 x) (fun i x hi hx=>by
    have hb : (!((!decide (x.Wait=0)) == decide (x.State=2))) = !(k5 x):=rfl;simp only [Ht,hi,hx,decide_true,cond_true,Option.bind_some,hb]
    rcases Bool.eq_false_or_eq_true (k5 x) with e|e <;> simp [e]) (by simp [Ht])
  rw [Wn] at h;simp only [Zdu,h,K5]
  rcases Bool.eq_false_or_eq_true (s.Procs.all k5) with e|e <;> simp [e]
theorem Zp9 (p : GPlan) (x : GProc) : Zcb p x=some (k6 p x):=by
  simp only [Zcb,Zc8,k6]
  by_cases e2 : x.Wait=2
  · simp [e2,wn]
  · by_cases e3 : x.Wait=3
    · simp [e3,wn]
    · by_cases e4 : x.Wait=4
      · by_cases e5 : 0 ≤ x.Obj
        · by_cases e6 : x.Obj < (p.Ports.length : Int)
          · obtain⟨y,hy⟩:=Zhl (l:=p.Ports) (n:=x.Obj) (by simp [wn,e5,e6]);have hk : pkAt p x.Obj=y.Kind:=by unfold pkAt;rw [hy]
            by_cases e7 : y.Kind=3 <;> simp [e4,e5,e6,wn,hy,hk,e7]
          · simp [e4,e5,e6,wn]
        · simp [e4,e5,wn]
      · simp [e2,e3,e4]
theorem Zsb (p : GPlan) (s : GState) : Zdv p s=some (K6 p s):=by
  have h:=Wh (L:=Hu p s) (l:=s.Procs) (z:=()) (fun _ x=>k6 p x) (fun i x hi hx=>by
    simp only [Hu,hi,hx,decide_true,cond_true,Option.bind_some,Zp9]
    rcases Bool.eq_false_or_eq_true (k6 p x) with e|e <;> simp [e]) (by simp [Hu])
  rw [Wn] at h;simp only [Zdv,h,K6]
  rcases Bool.eq_false_or_eq_true (s.Procs.all (k6 p)) with e|e <;> simp [e]
def Zal : Nat → List GProc → List Int
  | _,[]=>[]
  | k,x :: r=>(if x.State=1 then [((k : Nat) : Int)] else []) ++ Zal (k + 1) r
theorem Zco : ∀ {l : List GProc} {k : Nat} {n : Int},n ∈ Zal k l ↔ ∃ i x,l[i]? = some x ∧ x.State=1 ∧ n=((k + i : Nat) : Int)
  | [],k,n=>by simp [Zal]
  | y :: r,k,n=>by
    rw [Zal,List.mem_append,Zco];constructor
    · rintro (h | ⟨i,x,h1,h2,h3⟩)
      · by_cases e : y.State=1
        · rw [if_pos e,List.mem_singleton] at h;exact⟨0,y,rfl,e,by simpa using h⟩
        · rw [if_neg e] at h;cases h
      · exact⟨i + 1,x,by simpa using h1,h2,by rw [h3];congr 1;omega⟩
    · rintro ⟨i,x,h1,h2,h3⟩
      cases i with
      | zero=>
        have : y=x:=by simpa using h1
        subst this;rw [if_pos h2];exact .inl (by simpa using h3)
      | succ j=>exact .inr ⟨j,x,by simpa using h1,h2,by rw [h3];congr 1;omega⟩
theorem Zg6 : ∀ (l : List GProc) (k : Nat),(Zal k l).Nodup
  | [],k=>List.nodup_nil
  | y :: r,k=>by
    have ih:=Zg6 r (k + 1);rw [Zal];split
    · rw [List.singleton_append,List.nodup_cons];refine⟨fun h=>?_,ih⟩;obtain⟨i,x,_,_,h3⟩:=Zco.1 h;omega
    · exact ih
theorem Zfp : ∀ {l1 l2 : List Int},l1.Nodup → (∀ x ∈ l1,x ∈ l2) → l1.length ≤ l2.length
  | [],_,_,_=>Nat.zero_le _
  | a :: t,l2,hn,hs=>by
    obtain⟨h1,h2⟩:=List.nodup_cons.1 hn;have ha:=hs a List.mem_cons_self;have:=Zfp (l1:=t) (l2:=l2.erase a) h2 fun x hx=>(List.mem_erase_of_ne (fun e=>h1 (by rw [← e];exact hx))).2 (hs x (List.mem_cons_of_mem _ hx))
    rw [List.length_erase_of_mem ha] at this;have:=List.length_pos_of_mem ha;simp only [List.length_cons];omega
theorem Ziz : ∀ {l1 l2 : List Int},l1.Nodup → (∀ x ∈ l1,x ∈ l2) → l2.length ≤ l1.length → ∀ x ∈ l2,x ∈ l1
  | [],l2,_,_,hl,x,hx=>by
    have : l2=[]:=List.length_eq_zero_iff.1 (by simpa using hl);subst this;cases hx
  | a :: t,l2,hn,hs,hl,x,hx=>by
    obtain⟨h1,h2⟩:=List.nodup_cons.1 hn;have ha:=hs a List.mem_cons_self
    by_cases e : x=a
    · rw [e];exact List.mem_cons_self
    · have hl' : (l2.erase a).length ≤ t.length:=by
        rw [List.length_erase_of_mem ha];simp only [List.length_cons] at hl;omega
      have:=Ziz (l1:=t) (l2:=l2.erase a) h2 (fun y hy=>(List.mem_erase_of_ne (fun e=>h1 (by rw [← e];exact hy))).2 (hs y (List.mem_cons_of_mem _ hy))) hl' x ((List.mem_erase_of_ne e).2 hx);exact List.mem_cons_of_mem _ this
theorem Zqa {l : List Int} (h : ∀ i x,l[i]? = some x → x ∉ l.take i) : l.Nodup:=by
  rw [List.nodup_iff_pairwise_ne,List.pairwise_iff_getElem];intro i j hi hj hij e;have:=h j l[j] (List.getElem?_eq_getElem hj);apply this;rw [← e,List.mem_take_iff_getElem];exact⟨i,by omega,rfl⟩
theorem Ztt (s : GState) (hok : Zpl s) (i : Nat) (x : Int) (hi : i < s.Ready.length) : Kq (Wc s i x) 0=some (if decide (x ∈ s.Ready.take i)=true then .inr false else .inl ()):=by
  have hlt : (s.Ready.take i).length=i:=by rw [List.length_take];omega
  have h:=Zcn (L:=Wc s i x) (l:=s.Ready.take i) (z:=()) (fun _ y=>!decide (y=x)) (fun j y hj hy=>by
    have hjl : j < i:=by omega
    rw [List.getElem?_take_of_lt hjl] at hy;have hr : rdI s.Ready (j : Int)=some y:=by simp [rdI,hy]
    have hw : IntKind.i64.wrap ((j : Int) + 1)=((j + 1 : Nat) : Int):=by have:=hok.2.2;rw [Jw ⟨by omega,by omega⟩];rfl
    have hc : (j : Int) < (i : Int):=by omega
    simp only [Wc,hc,hr,hw,decide_true,cond_true,Option.bind_some]
    by_cases e : y=x <;> simp [e]) (by rw [hlt];simp [Wc])
  rw [h,Wn]
  by_cases e : x ∈ s.Ready.take i
  · have : ((s.Ready.take i).all fun y=>!decide (y=x))=false:=by
      rw [List.all_eq_false];exact⟨x,e,by simp⟩
    rw [this];simp [e]
  · have : ((s.Ready.take i).all fun y=>!decide (y=x))=true:=by
      rw [List.all_eq_true];intro y hy;simp;rintro rfl;exact e hy
    rw [this];simp [e]
theorem Zqb (s : GState) (hok : Zpl s) : Kq (Wd s) (0,0)=some (((Zal 0 s.Procs).length : Nat) : Int):=by
  have h:=Zh3 (L:=Wd s) (l:=s.Procs) (g:=fun z x=>if x.State=1 then z + 1 else z) (I:=fun z i=>0 ≤ z ∧ z ≤ i) (z:=(0 : Int)) ⟨Int.le_refl _,Int.le_refl _⟩ (fun i x z hi hx hI=>⟨by
    have hw : IntKind.i64.wrap (z + 1)=z + 1:=by have:=hok.2.1;have:=hI.1;have:=hI.2;exact Jw ⟨by omega,by omega⟩
    simp only [Wd,Za9,hi,hx,decide_true,cond_true,Option.bind_some,hw]
    by_cases e : x.State=1 <;> simp [e],by
    have:=hI.1;have:=hI.2
    by_cases e : x.State=1
    · simp only [e,if_true];omega
    · simp only [e,if_false];omega⟩) (fun z _=>by simp [Wd])
  rw [h.1]
  congr 1
  have key : ∀ (l : List GProc) (k : Nat) (z : Int),l.foldl (fun z x=>if x.State=1 then z + 1 else z) z=z + ((Zal k l).length : Nat):=by
    intro l
    induction l with
    | nil=>intro k z;simp [Zal]
    | cons x r ih=>
      intro k z;rw [List.foldl_cons,ih (k + 1),Zal,List.length_append]
      by_cases e : x.State=1 <;> simp [e] <;> omega
  rw [key s.Procs 0 0];omega
theorem Zsc (s : GState) (hok : Zpl s) : Zdw s=some (K7 s):=by
  have h1:=Wh (L:=Uw s) (l:=s.Ready) (z:=()) (q7 s) (fun i x hi hx=>by
    have hd:=Ztt s hok i x hi;simp only [Uw,Za8,hi,hx,decide_true,cond_true,Option.bind_some,hd,q7]
    rcases Bool.eq_false_or_eq_true (wn x s.Procs.length) with e|e
    · obtain⟨y,hy⟩:=Zhl e;have hk : Zpk s x=y.State:=by unfold Zpk;rw [hy]
      have e':=e;simp only [wn,Bool.and_eq_true,decide_eq_true_eq] at e';have n1 : ¬ x < 0:=by omega
      have n2 : ¬ ((s.Procs.length : Nat) : Int) ≤ x:=by omega
      by_cases e1 : x ∈ s.Ready.take i
      · by_cases e2 : y.State=1 <;> simp [e,e1,n1,n2,hy,hk,e2]
      · by_cases e2 : y.State=1 <;> simp [e,e1,n1,n2,hy,hk,e2]
    · by_cases n1 : x < 0
      · simp [n1,e]
      · by_cases n2 : ((s.Procs.length : Nat) : Int) ≤ x
        · simp [n1,n2,e]
        · exfalso;have : wn x s.Procs.length=true:=by simp only [wn,Bool.and_eq_true,decide_eq_true_eq];omega
          rw [this] at e;cases e) (by simp [Uw])
  simp only [Zdw,h1,Zqb s hok,Option.bind_some,K7]
  rcases Bool.eq_false_or_eq_true (Zg5 (q7 s) 0 s.Ready) with e|e
  rotate_left
  · simp [e]
  rw [e,if_pos rfl];simp only [Option.bind_some,Bool.true_and]
  congr 1
  have hq:=Zfo.1 e;have hnd : s.Ready.Nodup:=Zqa fun i x hx=>by
    have:=hq i x hx;rw [Nat.zero_add] at this;simp only [q7,Bool.and_eq_true,Bool.not_eq_true',decide_eq_false_iff_not] at this;exact this.1.2
  have hsub : ∀ n ∈ s.Ready,n ∈ Zal 0 s.Procs:=fun n hn=>by
    obtain⟨i,hi⟩:=List.mem_iff_getElem?.1 hn;have:=hq i n hi;rw [Nat.zero_add] at this;simp only [q7,Bool.and_eq_true,decide_eq_true_eq] at this;obtain⟨y,hy⟩:=Zhl this.1.1;have h0 : 0 ≤ n:=by
      have:=this.1.1;simp only [wn,Bool.and_eq_true,decide_eq_true_eq] at this;exact this.1
    have hk : Zpk s n=y.State:=by unfold Zpk;rw [hy]
    refine Zco.2 ⟨n.toNat,y,?_,by rw [← hk];exact this.2,by omega⟩;unfold rdI at hy;rwa [if_pos h0] at hy
  have hle:=Zfp hnd hsub
  rcases Bool.eq_false_or_eq_true (Zg5 (q7b s) 0 s.Procs) with e2|e2
  · rw [e2];have hq2:=Zfo.1 e2;have : ∀ n ∈ Zal 0 s.Procs,n ∈ s.Ready:=fun n hn=>by
      obtain⟨i,x,g1,g2,g3⟩:=Zco.1 hn;have:=hq2 i x g1;simp only [q7b,Bool.or_eq_true,Bool.not_eq_true',decide_eq_false_iff_not,decide_eq_true_eq] at this
      rcases this with h|h
      · exact absurd g2 h
      · rw [g3];exact h
    have:=Zfp (Zg6 s.Procs 0) this;exact decide_eq_true (by omega)
  · rw [e2];refine decide_eq_false fun hc=>?_
    have hall:=Ziz hnd hsub (by omega);have : Zg5 (q7b s) 0 s.Procs=true:=Zfo.2 fun i x hx=>by
      simp only [q7b,Bool.or_eq_true,Bool.not_eq_true',decide_eq_false_iff_not,decide_eq_true_eq]
      by_cases g : x.State=1
      · exact .inr (hall _ (Zco.2 ⟨i,x,hx,g,rfl⟩))
      · exact .inl g
    rw [this] at e2;cases e2
theorem Zsd (s : GState) (hok : Zpl s) (i : Nat) (t : GTimer) (hi : i < s.Timers.length) : Kq (Ud s i t) 0=some (if decide (t.Proc ∈ (s.Timers.map GTimer.Proc).take i)=true then .inr false else .inl ()):=by
  have hlt : (s.Timers.take i).length=i:=by rw [List.length_take];omega
  have h:=Zcn (L:=Ud s i t) (l:=s.Timers.take i) (z:=()) (fun _ y=>!decide (y.Proc=t.Proc)) (fun j y hj hy=>by
    have hjl : j < i:=by omega
    rw [List.getElem?_take_of_lt hjl] at hy;have hr : rdI s.Timers (j : Int)=some y:=by simp [rdI,hy]
    have hw : IntKind.i64.wrap ((j : Int) + 1)=((j + 1 : Nat) : Int):=by have:=hok.1.1;rw [Jw ⟨by omega,by omega⟩];rfl
    have hc : (j : Int) < (i : Int):=by omega
    simp only [Ud,hc,hr,hw,decide_true,cond_true,Option.bind_some]
    by_cases e : y.Proc=t.Proc <;> simp [e]) (by rw [hlt];simp [Ud])
  rw [h,Wn,← List.map_take]
  by_cases e : t.Proc ∈ (s.Timers.take i).map GTimer.Proc
  · have : ((s.Timers.take i).all fun y=>!decide (y.Proc=t.Proc))=false:=by
      obtain⟨y,hy,hyt⟩:=List.mem_map.1 e;rw [List.all_eq_false];exact⟨y,hy,by simp [hyt]⟩
    rw [this];simp only [e,decide_true,if_true];rfl
  · have : ((s.Timers.take i).all fun y=>!decide (y.Proc=t.Proc))=true:=by
      rw [List.all_eq_true];intro y hy;simp;intro h;exact e (List.mem_map.2 ⟨y,hy,h⟩)
    rw [this];simp only [e,decide_false,if_true];rfl
theorem Zse (s : GState) (hok : Zpl s) : Zdx s=some (K8 s):=by
  have h1:=Wh (L:=Ux s) (l:=s.Timers) (z:=()) (q8 s) (fun i x hi hx=>by
    have hd:=Zsd s hok i x hi;have hb : (((decide (x.Proc < 0) || decide (((s.Procs.length : Nat) : Int) ≤ x.Proc)) || decide (x.Due < 0)) || decide (1010000 < x.Due)) = !(wn x.Proc s.Procs.length && bt x.Due 0 1010000):=by
      unfold wn bt
      by_cases e1 : 0 ≤ x.Proc <;> by_cases e2 : x.Proc < ((s.Procs.length : Nat) : Int) <;> by_cases e3 : 0 ≤ x.Due <;> by_cases e4 : x.Due ≤ 1010000 <;> simp [e1,e2,e3,e4] <;> omega
    simp only [Ux,Zba,hi,hx,decide_true,cond_true,Option.bind_some,hb,hd,q8]
    rcases Bool.eq_false_or_eq_true (wn x.Proc s.Procs.length) with e|e
    · rcases Bool.eq_false_or_eq_true (bt x.Due 0 1010000) with e2 | e2
      · by_cases e1 : x.Proc ∈ (s.Timers.map GTimer.Proc).take i
        · simp [e,e1,e2]
        · cases i with
          | zero=>simp [e,e2,Zom]
          | succ j=>
            have hj : j < s.Timers.length:=by omega
            have hw : IntKind.i64.wrap (((j + 1 : Nat) : Int) - 1)=(j : Int):=by have:=hok.1.1;rw [Jw ⟨by omega,by omega⟩];omega
            obtain⟨y,hy⟩ : ∃ y,s.Timers[j]? = some y:=⟨_,List.getElem?_eq_getElem hj⟩;have hr : rdI s.Timers (j : Int)=some y:=by simp [rdI,hy]
            have hpos : 0 < j + 1:=by omega
            rcases Bool.eq_false_or_eq_true (decide (x.Due < y.Due) || (decide (y.Due=x.Due) && decide (x.Proc ≤ y.Proc))) with e3|e3
            · simp only [e,e1,e2,e3,hw,hr,hy,hpos,Zom,decide_true,decide_false,cond_true,cond_false,Option.bind_some,Bool.not_true,Bool.not_false,Bool.and_true,Bool.and_false,Bool.false_eq_true,if_false]
            · simp only [e,e1,e2,e3,hw,hr,hy,hpos,Zom,decide_true,decide_false,cond_true,cond_false,Option.bind_some,Bool.not_true,Bool.not_false,Bool.and_true,Bool.false_eq_true,if_true,if_false]
      · simp [e,e2]
    · simp [e]) (by simp [Ux])
  simp only [Zdx,h1,Option.bind_some,K8]
  rcases Bool.eq_false_or_eq_true (Zg5 (q8 s) 0 s.Timers) with e|e <;> simp [e]
theorem Ztu (s : GState) (i : Nat) : Kq (We s i) (false,0)=some (decide (((i : Nat) : Int) ∈ s.Timers.map GTimer.Proc)):=by
  have h:=Zh3 (L:=We s i) (l:=s.Timers) (g:=fun (z : Bool) x=>if x.Proc=((i : Nat) : Int) then true else z) (I:=fun _ _=>True) (z:=false) trivial (fun j x z hj hx _=>⟨by
    simp only [We,Zbb,hj,hx,decide_true,cond_true,Option.bind_some]
    by_cases e : x.Proc=((i : Nat) : Int) <;> simp [e],trivial⟩) (fun z _=>by simp [We])
  rw [h.1]
  congr 1
  have key : ∀ (l : List GTimer) (z : Bool),l.foldl (fun (z : Bool) x=>if x.Proc=((i : Nat) : Int) then true else z) z=(z || decide (((i : Nat) : Int) ∈ l.map GTimer.Proc)):=by
    intro l
    induction l with
    | nil=>intro z;simp
    | cons x r ih=>
      intro z;rw [List.foldl_cons,ih]
      by_cases e : x.Proc=((i : Nat) : Int)
      · simp [e]
      · have e' : ¬ ((i : Nat) : Int)=x.Proc:=fun h=>e h.symm
        simp [e,e']
  rw [key];simp
theorem Zsf (s : GState) : Zdy s=some (K9 s):=by
  have h1:=Wh (L:=Uz s) (l:=s.Timers) (z:=()) (q9 s) (fun i x hi hx=>by
    simp only [Uz,Zby,hi,hx,decide_true,cond_true,Option.bind_some,q9]
    by_cases e1 : 0 ≤ x.Proc
    · by_cases e2 : x.Proc < ((s.Procs.length : Nat) : Int)
      · have e : wn x.Proc s.Procs.length=true:=by simp [wn,e1,e2]
        obtain⟨y,hy⟩:=Zhl e;have hk : Zpk s x.Proc=y.State:=by unfold Zpk;rw [hy]
        by_cases e3 : y.State=2 <;> simp [e,e1,e2,hy,hk,e3]
      · have e : wn x.Proc s.Procs.length=false:=by simp [wn,e2]
        simp [e,e1,e2]
    · have e : wn x.Proc s.Procs.length=false:=by simp [wn,e1]
      simp [e,e1]) (by simp [Uz])
  have h2:=Wh (L:=Uy s) (l:=s.Procs) (z:=()) (q9b s) (fun i x hi hx=>by
    simp only [Uy,Zbc,hi,hx,decide_true,cond_true,Option.bind_some,Ztu,q9b]
    by_cases e1 : x.Wait=1
    · by_cases e2 : ((i : Nat) : Int) ∈ s.Timers.map GTimer.Proc
      · simp only [e1,e2,decide_true,cond_true,cond_false,Bool.not_true,Option.bind_some,Bool.or_true,if_true]
      · simp only [e1,e2,decide_true,decide_false,cond_true,cond_false,Bool.not_true,Bool.not_false,Option.bind_some,Bool.or_false,Bool.false_eq_true,if_false]
    · simp [e1]) (by simp [Uy])
  simp only [Zdy,h1,Option.bind_some,K9]
  rcases Bool.eq_false_or_eq_true (Zg5 (q9 s) 0 s.Timers) with e|e
  · simp only [e,if_true,h2,Option.bind_some,Bool.true_and]
    rcases Bool.eq_false_or_eq_true (Zg5 (q9b s) 0 s.Procs) with e3|e3 <;> simp [e3]
  · simp [e]
theorem Zbm (a b : Int) : Ga a b=some (if a < b then a else b):=by
  unfold Ga;by_cases h : a < b <;> simp [h]
theorem Zeg {α β : Type} (l : List α) (r : List β) : (if (r.length : Int) < (l.length : Int) then (r.length : Int) else (l.length : Int))=((l.zip r).length : Int):=by
  rw [List.length_zip];split <;> omega
section
variable {p : GPlan} {s : GState} {i : Nat} {x : GPortPlan × GPort}
theorem Zsg (hok : Zpl s) (hi : i < (p.Ports.zip s.Ports).length) (hx : (p.Ports.zip s.Ports)[i]? = some x) :
    rdI p.Ports (i : Int)=some x.1 ∧ rdI s.Ports (i : Int)=some x.2 ∧ IntKind.i64.wrap ((i : Int) + 1)=((i + 1 : Nat) : Int) ∧ (i : Int) < ((p.Ports.zip s.Ports).length : Int):=by
  obtain⟨h1,h2⟩:=List.getElem?_zip_eq_some.1 hx;have hl : i < s.Ports.length:=(List.getElem?_eq_some_iff.1 h2).1;refine⟨by simp [rdI,h1],by simp [rdI,h2],?_,by omega⟩;have:=hok.1.2.1;rw [Jw ⟨by omega,by omega⟩];rfl
end
theorem Zqc (p : GPlan) (s : GState) (hok : Zpl s) : Zcc p s=some (K11 p s):=by
  have h:=Zcn (L:=Gc p s) (l:=p.Ports.zip s.Ports) (z:=()) (fun _ x=>k11 x) (fun i x hi hx=>by
    obtain⟨g1,g2,g3,g4⟩:=Zsg hok hi hx;have hin:=Wh (L:=Gb p s (i : Int)) (l:=x.2.Msgs) (z:=()) (fun _ m=>!decide (x.1.Size < (m.size : Int))) (fun j m hj hm=>by
      simp only [Gb,g1,g2,hj,hm,decide_true,cond_true,Option.bind_some]
      by_cases e : x.1.Size < (m.size : Int) <;> simp [e]) (by simp [Gb,g2])
    rw [Wn] at hin;simp only [Gc,Zbm,Zeg,g1,g2,g3,g4,hin,decide_true,cond_true,Option.bind_some,k11];have ha : (x.2.Msgs.all fun m=>!decide (x.1.Size < (m.size : Int))) = !(x.2.Msgs.any fun m=>decide (x.1.Size < (m.size : Int))):=by
      rw [List.not_any_eq_all_not]
    rw [ha]
    by_cases e : x.1.Depth < (x.2.Msgs.length : Int)
    · have e' : ¬ (x.2.Msgs.length : Int) ≤ x.1.Depth:=by omega
      simp [e,e']
    · have e' : (x.2.Msgs.length : Int) ≤ x.1.Depth:=by omega
      rcases Bool.eq_false_or_eq_true (x.2.Msgs.any fun m=>decide (x.1.Size < (m.size : Int))) with b|b <;> simp only [b,e,e',decide_true,decide_false,cond_false,Bool.not_true,Bool.not_false,Bool.and_true,Bool.and_false,Bool.false_eq_true,if_true,if_false]) (by simp only [Gc,Zbm,Zeg,Option.bind_some,Int.lt_irrefl,decide_false,cond_false])
  rw [Wn] at h;simp only [Zcc,h,K11]
  generalize (List.all _ _ : Bool)=b
  cases b <;> simp
theorem Zqd (p : GPlan) (s : GState) (hok : Zpl s) : Zcd p s=some (K12 p s):=by
  have h:=Zcn (L:=Gd p s) (l:=p.Ports.zip s.Ports) (z:=()) (fun _ x=>k12 x) (fun i x hi hx=>by
    obtain⟨g1,g2,g3,g4⟩:=Zsg hok hi hx;simp only [Gd,Zbd,Zbm,Zeg,g1,g2,g3,g4,decide_true,cond_true,Option.bind_some,k12]
    by_cases e1 : x.2.Age < 0
    · have e : bt x.2.Age 0 255=false:=by unfold bt;simp;omega
      simp [e,e1]
    · by_cases e2 : 255 < x.2.Age
      · have e : bt x.2.Age 0 255=false:=by unfold bt;simp;omega
        simp [e,e1,e2]
      · have e : bt x.2.Age 0 255=true:=by unfold bt;simp;omega
        by_cases e3 : x.2.Age=0
        · have e' : bt 0 0 255=true:=rfl;simp [e',e3]
        · by_cases e4 : x.1.Kind=1
          · by_cases e5 : x.2.Msgs.length=0
            · simp only [e,e1,e2,e3,e4,e5,decide_true,decide_false,cond_true,cond_false,Option.bind_some,Bool.not_true,Bool.not_false,Bool.true_and,Bool.and_true,Bool.false_or,Nat.lt_irrefl,Bool.false_eq_true,if_false]
            · have e6 : 0 < x.2.Msgs.length:=by omega
              simp only [e,e1,e2,e3,e4,e5,e6,decide_true,decide_false,cond_true,cond_false,Option.bind_some,Bool.not_true,Bool.not_false,Bool.true_and,Bool.and_true,Bool.false_or,if_true]
          · simp [e,e1,e2,e3,e4]) (by simp only [Gd,Zbm,Zeg,Option.bind_some,Int.lt_irrefl,decide_false,cond_false])
  rw [Wn] at h;simp only [Zcd,h,K12]
  generalize (List.all _ _ : Bool)=b
  cases b <;> simp
theorem Zqe (p : GPlan) (s : GState) (hok : Zpl s) : Zce p s=some (K13 p s):=by
  have h:=Zcn (L:=Ge p s) (l:=p.Pages.zip s.Pages) (z:=()) (fun _ x=>decide (x.1.Rights=x.2.Rights)) (fun i x hi hx=>by
    obtain⟨h1,h2⟩:=List.getElem?_zip_eq_some.1 hx;have hl : i < s.Pages.length:=(List.getElem?_eq_some_iff.1 h2).1;have g1 : rdI p.Pages (i : Int)=some x.1:=by simp [rdI,h1]
    have g2 : rdI s.Pages (i : Int)=some x.2:=by simp [rdI,h2]
    have g3 : IntKind.i64.wrap ((i : Int) + 1)=((i + 1 : Nat) : Int):=by have:=hok.1.2.2;rw [Jw ⟨by omega,by omega⟩];rfl
    have g4 : (i : Int) < ((p.Pages.zip s.Pages).length : Int):=by omega
    have hcm : (x.2.Rights=x.1.Rights)=(x.1.Rights=x.2.Rights):=propext ⟨Eq.symm,Eq.symm⟩;simp only [Ge,Zbm,Zeg,g1,g2,g3,g4,hcm,decide_true,cond_true,Option.bind_some]
    by_cases e : x.1.Rights=x.2.Rights <;> simp [e]) (by simp only [Ge,Zbm,Zeg,Option.bind_some,Int.lt_irrefl,decide_false,cond_false])
  rw [Wn] at h;simp only [Zce,h,K13]
  generalize (List.all _ _ : Bool)=b
  cases b <;> simp
theorem Zox (a b : Int) : (if a < b then a else b)=mn a b:=by unfold mn;split <;> split <;> omega
theorem Zqf (p : GPlan) (s : GState) : Zcf p s=some (K14 p s):=by
  have h:=Wh (L:=Gf p s) (l:=s.Procs) (z:=()) (fun _ x=>k14 p s x) (fun i x hi hx=>by
    simp only [Gf,Zbe,hi,hx,decide_true,cond_true,Option.bind_some,Zbm,Zox,k14]
    by_cases e : x.Wait=2
    · by_cases e1 : 0 ≤ x.Obj
      · by_cases e2 : x.Obj < mn s.Up.length p.Events
        · have e3 : wn x.Obj (mn s.Up.length p.Events)=true:=by simp [wn,e1,e2]
          obtain⟨y,hy⟩:=Zhl (Zni e3 (Znj _ _).1);cases y <;> simp [e,e1,e2,e3,hy,upAt]
        · have e3 : wn x.Obj (mn s.Up.length p.Events)=false:=by simp [wn,e2]
          simp [e,e1,e2,e3]
      · have e3 : wn x.Obj (mn s.Up.length p.Events)=false:=by simp [wn,e1]
        simp [e,e1,e3]
    · simp [e]) (by simp [Gf])
  rw [Wn] at h;simp only [Zcf,h,K14]
  generalize (List.all _ _ : Bool)=b
  cases b <;> simp
theorem Zqg (p : GPlan) (s : GState) : Zcg p s=some (K15 p s):=by
  have h:=Wh (L:=Gg p s) (l:=s.Procs) (z:=()) (fun _ x=>k15 p s x) (fun i x hi hx=>by
    simp only [Gg,Zbf,hi,hx,decide_true,cond_true,Option.bind_some,Zbm,Zox,k15]
    by_cases e : x.Wait=3
    · by_cases e1 : 0 ≤ x.Obj
      · by_cases e2 : x.Obj < mn s.Sems.length p.Sems.length
        · have e3 : wn x.Obj (mn s.Sems.length p.Sems.length)=true:=by simp [wn,e1,e2]
          obtain⟨y,hy⟩:=Zhl (Zni e3 (Znj _ _).1)
          by_cases e4 : y=0 <;> simp [e,e1,e2,e3,hy,smAt,e4]
        · have e3 : wn x.Obj (mn s.Sems.length p.Sems.length)=false:=by simp [wn,e2]
          simp [e,e1,e2,e3]
      · have e3 : wn x.Obj (mn s.Sems.length p.Sems.length)=false:=by simp [wn,e1]
        simp [e,e1,e3]
    · simp [e]) (by simp [Gg])
  rw [Wn] at h;simp only [Zcg,h,K15]
  generalize (List.all _ _ : Bool)=b
  cases b <;> simp
theorem Zqh (p : GPlan) (s : GState) : Zch p s=some (K16 p s):=by
  have h:=Wh (L:=Wr p s) (l:=s.Procs) (z:=()) (fun _ x=>k16 p s x) (fun i x hi hx=>by
    simp only [Wr,Zaj,Zai,Zah,hi,hx,decide_true,cond_true,Option.bind_some,Zbm,Zox,k16,Zvq (s.Ports.length : Int)]
    by_cases e : x.Wait=4
    · by_cases e1 : x.Obj < 0
      · have e3 : wn x.Obj (mn p.Ports.length s.Ports.length)=false:=by unfold wn;simp;omega
        simp [e,e1,e3]
      · by_cases e2 : mn p.Ports.length s.Ports.length ≤ x.Obj
        · have e3 : wn x.Obj (mn p.Ports.length s.Ports.length)=false:=by unfold wn;simp;omega
          simp [e,e1,e2,e3]
        · have e3 : wn x.Obj (mn p.Ports.length s.Ports.length)=true:=by unfold wn;simp;omega
          obtain⟨y,hy⟩:=Zhl (Zni e3 (Znj _ _).1);obtain⟨z,hz⟩:=Zhl (Zni e3 (Znj _ _).2);simp only [e,e1,e2,e3,hy,hz,decide_true,decide_false,cond_true,cond_false,Option.bind_some,Bool.not_true,Bool.not_false,Bool.and_self,if_true,k16i]
          by_cases e4 : y.Kind=3
          · have e5 : ¬ y.Kind=4:=by omega
            by_cases e6 : z.Msgs.length=0
            · simp only [e4,e5,e6,decide_true,decide_false,cond_true,cond_false,Option.bind_some,Bool.not_true,if_true,show ¬ (3 : Int)=4 by decide]
            · simp only [e4,e5,e6,decide_true,decide_false,cond_true,cond_false,Option.bind_some,Bool.not_false,Bool.false_eq_true,if_true,if_false]
          · by_cases e5 : y.Kind=4
            · by_cases e6 : (z.Msgs.length : Int)=y.Depth
              · simp only [e5,e6,decide_true,decide_false,cond_true,cond_false,Option.bind_some,Bool.not_true,if_true,if_false,show ¬ (4 : Int)=3 by decide]
              · simp only [e5,e6,decide_true,decide_false,cond_true,cond_false,Option.bind_some,Bool.not_false,Bool.false_eq_true,if_true,if_false,show ¬ (4 : Int)=3 by decide]
            · simp only [e4,e5,decide_false,cond_false,Option.bind_some,if_false,if_true]
    · simp [e]) (by simp [Wr])
  rw [Wn] at h;simp only [Zch,h,K16]
  generalize (List.all _ _ : Bool)=b
  cases b <;> simp
theorem Zqi (p : GPlan) (s : GState) (hok : Zpl s) : Zci p s=some (K17 p s):=by
  have h:=Zcn (L:=Gh p s) (l:=p.Ports.zip s.Ports) (z:=()) (fun _ x=>k17 x) (fun i x hi hx=>by
    obtain⟨g1,g2,g3,g4⟩:=Zsg hok hi hx;simp only [Gh,Zbg,Zbm,Zeg,g1,g2,g3,g4,decide_true,cond_true,Option.bind_some,k17];have e6 : decide (0 < x.2.Msgs.length) = !decide (x.2.Msgs.length=0):=by
      by_cases e : x.2.Msgs.length=0
      · rw [e];rfl
      · have : 0 < x.2.Msgs.length:=by omega
        simp [e,this]
    rw [e6]
    by_cases e7 : x.2.Msgs.length=0
    · by_cases e2 : x.1.Kind=2
      · simp only [e2,e7,decide_true,cond_true,cond_false,Option.bind_some,Bool.not_true,Bool.true_or,Bool.or_true,if_true]
      · by_cases e4 : x.1.Kind=4
        · simp only [e2,e4,e7,decide_true,decide_false,cond_true,cond_false,Option.bind_some,Bool.not_true,Bool.false_or,Bool.or_true,if_true,show ¬ (4 : Int)=2 by decide]
        · simp only [e2,e4,e7,decide_true,decide_false,cond_false,Option.bind_some,Bool.or_self,Bool.not_false,Bool.true_or,if_true]
    · by_cases e2 : x.1.Kind=2
      · simp only [e2,e7,decide_true,decide_false,cond_true,Option.bind_some,Bool.not_true,Bool.not_false,Bool.true_or,Bool.or_false,Bool.false_eq_true,if_false]
      · by_cases e4 : x.1.Kind=4
        · simp only [e2,e4,e7,decide_true,decide_false,cond_true,cond_false,Option.bind_some,Bool.not_true,Bool.not_false,Bool.false_or,Bool.or_false,Bool.false_eq_true,if_false,show ¬ (4 : Int)=2 by decide]
        · simp only [e2,e4,e7,decide_false,cond_false,Option.bind_some,Bool.or_self,Bool.not_false,Bool.true_or,if_true]) (by simp only [Gh,Zbm,Zeg,Option.bind_some,Int.lt_irrefl,decide_false,cond_false])
  rw [Wn] at h;simp only [Zci,h,K17]
  generalize (List.all _ _ : Bool)=b
  cases b <;> simp
theorem Ztv (s : GState) : Kq (Gu s) 0=some (if K10 s=true then .inl () else .inr false):=by
  have h:=Wh (L:=Gu s) (l:=s.Sems) (z:=()) (fun _ n=>bt n 0 255) (fun i x hi hx=>by
    simp only [Gu,Zc9,hi,hx,decide_true,cond_true,Option.bind_some]
    by_cases e1 : x < 0
    · have e : bt x 0 255=false:=by unfold bt;simp;omega
      simp [e,e1]
    · by_cases e2 : 255 < x
      · have e : bt x 0 255=false:=by unfold bt;simp;omega
        simp [e,e1,e2]
      · have e : bt x 0 255=true:=by unfold bt;simp;omega
        simp [e,e1,e2]) (by simp [Gu])
  rw [Wn] at h;exact h
theorem Ztw (p : GPlan) (s : GState) (hok : Zpl s) (k : Nat) (hk : k < 17) : Jp ((k + 1 : Nat) : Int) p s=some (Zim p s)[k]:=by
  have h4:=Zr9 s;have h5:=Zsa s;have h6:=Zsb p s;have h7:=Zsc s hok;have h8:=Zse s hok;have h9:=Zsf s;have h10:=Ztv s;have h11:=Zqc p s hok;have h12:=Zqd p s hok;have h13:=Zqe p s hok;have h14:=Zqf p s;have h15:=Zqg p s;have h16:=Zqh p s;have h17:=Zqi p s hok
  match k,hk with
  | 0,_=>rfl
  | 1,_=>simp [Jp,Zim,K2,bt,Bool.and_assoc]
  | 2,_=>rfl
  | 3,_=>simp [Jp,Zim,h4]
  | 4,_=>simp [Jp,Zim,h5]
  | 5,_=>simp [Jp,Zim,h6]
  | 6,_=>simp [Jp,Zim,h7]
  | 7,_=>simp [Jp,Zim,h8]
  | 8,_=>simp [Jp,Zim,h9]
  | 9,_=>
    simp only [Jp,h10];have : (Zim p s)[9]=K10 s:=rfl;rw [this]
    rcases Bool.eq_false_or_eq_true (K10 s) with e|e <;> simp [e]
  | 10,_=>simp [Jp,Kt,Zim,h11]
  | 11,_=>simp [Jp,Kt,Zim,h12]
  | 12,_=>simp [Jp,Kt,Zim,h13]
  | 13,_=>simp [Jp,Kt,Zim,h14]
  | 14,_=>simp [Jp,Kt,Zim,h15]
  | 15,_=>simp [Jp,Kt,Zim,h16]
  | 16,_=>simp [Jp,Kt,Zim,h17]
  | k + 17,hk=>exact absurd hk (by omega)
theorem Zqj (p : GPlan) (s : GState) (hok : Zpl s) : Zav p s=some (Wi p s):=by
  unfold Wi
  by_cases h : Zcm p=.nil
  rotate_left
  · rw [if_pos h];simp only [Zav,Zjb,h,decide_false,Bool.not_false,cond_true,Option.bind_some]
  rw [if_neg (by simpa using h)];have hkp:=Ztw p s hok
  generalize Zim p s=v at hkp
  have h17 : v.toList.length=17:=by simp
  have key : ∀ m k,k + m=17 → Kq (Wf p s) (brk 0 (v.toList.take k),((k + 1 : Nat) : Int))=some (brk 0 v.toList):=by
    intro m
    induction m with
    | zero=>
      intro k hk;obtain rfl : k=17:=by omega
      rw [List.take_of_length_le (by omega)];exact Ue (by simp [Wf])
    | succ m ih=>
      intro k hk;have hlt : k < 17:=by omega
      have hlt' : k < v.toList.length:=by omega
      have hb : v.toList[k]? = some v[k]:=by simp [hlt]
      have hrd:=hkp k hlt;have hl:=Zov (v.toList.take k) 0;rw [List.length_take] at hl;have hc : ((brk 0 (v.toList.take k)).length + [((k + 1 : Nat) : Int)].length) * 8 ≤ 140737488355328:=by
        simp only [List.length_cons,List.length_nil];omega
      have hle : ((k + 1 : Nat) : Int) ≤ 17:=by omega
      have hw : IntKind.i64.wrap (((k + 1 : Nat) : Int) + 1)=((k + 1 + 1 : Nat) : Int):=by rw [Jw ⟨by omega,by omega⟩];rfl
      have hs : Wf p s (brk 0 (v.toList.take k),((k + 1 : Nat) : Int))=some (.inl (brk 0 (v.toList.take (k + 1)),((k + 1 + 1 : Nat) : Int))):=by
        rw [Vs hb,Zmj,List.length_take,Nat.min_eq_left (by omega),Nat.zero_add];simp only [Wf,Zbh,hle,hrd,hw,decide_true,cond_true,Option.bind_some,chk,hc,if_true]
        rcases Bool.eq_false_or_eq_true v[k] with e|e <;> simp [e]
      rw [Hw hs];exact ih (k + 1) (by omega)
  have h0:=key 17 0 rfl;rw [List.take_zero] at h0;simp only [Zav,Zjb,h,decide_true,Bool.not_true,cond_false,Option.bind_some];exact (congrArg (fun o=>Option.bind o fun l=>some l) h0)
theorem Zsh (p : GPlan) (s : GState) (hok : Zpl s) (last : Int) : Zdz p s last=some ((Zk1 p s last).code,(Zk1 p s last).place):=by
  simp only [Zdz,Zbz,Zqj p s hok,Option.bind_some,Zk1];cases h : Wi p s with
  | nil=>simp [cNil,pNil]
  | cons x r=>
    by_cases e : last < x
    · simp [e,cNil,pNil]
    · by_cases e2 : x=0
      · subst e2;simp [e,cPlan,pV]
      · have c9 : (ErrM.pl x Ts).code=9:=by rw [cPl,cState]
        simp [e,e2,c9,pPl]
theorem Ztx {v : List UInt8} {s : List UInt8} {k : Nat} {c : UInt8} (hk : k < s.length) (hv : k < v.length) (hc : s[k]? = some c) : (s.take k ++ v.drop k).set k c=s.take (k + 1) ++ v.drop (k + 1):=by
  have hl : (s.take k).length=k:=by rw [List.length_take];omega
  have hd : v.drop k=v[k] :: v.drop (k + 1):=List.drop_eq_getElem_cons hv;rw [List.set_append_right _ _ (by omega),hl,Nat.sub_self,hd,List.set_cons_zero,List.take_add_one,hc];simp
theorem Zty (p : GPlan) (i : Nat) (x : GPagePlan) (hx : p.Pages[i]? = some x) (hs : x.Init.size ≤ 64) : Kq (Gt p i) (0,(⟨x.Rights,false,Vector.replicate 64 0⟩ : GPage))=some (Ze4 x):=by
  have hsz : x.Init.data.toList.length=x.Init.size:=rfl;have h:=Ze3 (L:=Gt p i) (fun s : Int × GPage=>∃ k : Nat,k ≤ x.Init.size ∧ s.1=(k : Int) ∧ s.2.Rights=x.Rights ∧ s.2.Dirty=false ∧ s.2.Data.toList=x.Init.data.toList.take k ++ (Vector.replicate 64 (0 : UInt8)).toList.drop k) (fun r=>r=Ze4 x) (fun s=>x.Init.size - s.1.toNat) (fun s hI=>by
    obtain⟨z,t⟩:=s;obtain⟨k,hk,hz,hR,hD,hl⟩:=hI;simp only at hz hR hD hl;subst hz
    by_cases hlt : k < x.Init.size
    · have e1 : (k : Int) < ((x.Init.size : Nat) : Int):=by omega
      have hrd : rdS x.Init (k : Int)=some (((x.Init[k]'hlt).toNat : Nat) : Int):=by
        unfold rdS;rw [dif_pos ⟨by omega,by simpa using hlt⟩];rfl
      have hb : Wt (((x.Init[k]'hlt).toNat : Nat) : Int)=x.Init[k]'hlt:=by
        have h1:=Zec (((x.Init[k]'hlt).toNat : Nat) : Int);have h2:=(x.Init[k]'hlt).toNat_lt;apply UInt8.toNat_inj.1;omega
      have hc : x.Init.data.toList[k]? = some (x.Init[k]'hlt):=by
        rw [List.getElem?_eq_getElem (by rw [hsz];exact hlt)];rfl
      have hv : rdV t.Data (k : Int)=some (t.Data[k]'(by omega)):=by
        rw [Zoc];simp
      have hw : IntKind.i64.wrap ((k : Int) + 1)=((k + 1 : Nat) : Int):=by rw [Jw ⟨by omega,by omega⟩];omega
      refine .inl ⟨(((k + 1 : Nat) : Int),⟨t.Rights,t.Dirty,t.Data.setIfInBounds k (x.Init[k]'hlt)⟩),?_,⟨k + 1,by omega,rfl,hR,hD,?_⟩,by simp only;omega⟩
      · simp only [Gt,hx,e1,hrd,hv,hw,hb,decide_true,cond_true,Option.bind_some,Int.toNat_natCast]
      · have : (t.Data.setIfInBounds k (x.Init[k]'hlt)).toList=t.Data.toList.set k (x.Init[k]'hlt):=by
          simp [Vector.toList]
        rw [this,hl,Ztx (by omega) (by simp;omega) hc]
    · have e1 : ¬ (k : Int) < ((x.Init.size : Nat) : Int):=by omega
      obtain rfl : k=x.Init.size:=by omega
      refine .inr ⟨t,?_,?_⟩
      · simp only [Gt,hx,e1,decide_false,cond_false,Option.bind_some]
      · have : t.Data=cpyV (Vector.replicate 64 0) x.Init:=by
          apply Vector.toList_inj.1;rw [hl,Zrh,cpyL];rw [List.take_of_length_le (by omega),List.take_of_length_le (by simp;omega)]
        cases t
        simp only at hR hD this;simp only [Ze4,hR,hD,this]) (s:=(0,⟨x.Rights,false,Vector.replicate 64 0⟩)) ⟨0,Nat.zero_le _,rfl,rfl,rfl,by simp⟩
  obtain⟨_,h,rfl⟩:=h;exact h
theorem Zml {p : GPlan} (h : Zcm p=.nil) : Zbq p=some (Ko p):=by
  have ok:=Znp h;have okK:=okK_of h;have hA:=Ze3 (L:=Ho p) (fun s : Nat × List GProc × List Int=>s.1 ≤ p.Procs.length ∧ s.2.1=(p.Procs.take s.1).map Zhn ∧ s.2.2=Hv 0 (p.Procs.take s.1)) (fun r=>r=(p.Procs.map Zhn,Hv 0 p.Procs)) (fun s=>p.Procs.length - s.1) (fun s hI=>by
    obtain⟨i,l1,l2⟩:=s;obtain⟨hi,h1,h2⟩:=hI;simp only at hi h1 h2
    by_cases hlt : i < p.Procs.length
    · have hx : p.Procs[i]? = some p.Procs[i]:=List.getElem?_eq_getElem hlt
      generalize p.Procs[i]=x at hx
      have hl1 : l1.length=i:=by rw [h1];simp;omega
      have hl2:=Zmk (p.Procs.take i) 0;rw [← h2,List.length_take] at hl2;have hp:=ok.pr1;have c1 : ∀ t : GProc,(l1.length + [t].length) * 104 ≤ 140737488355328:=fun t=>by simp only [List.length_cons,List.length_nil];omega
      have c2 : (l2.length + [((i : Nat) : Int)].length) * 8 ≤ 140737488355328:=by simp only [List.length_cons,List.length_nil];omega
      have e1 : (p.Procs.take (i + 1)).map Zhn=l1 ++ [Zhn x]:=by rw [Vs hx,List.map_append,h1];rfl
      have e2 : Hv 0 (p.Procs.take (i + 1))=l2 ++ (if x.Auto=true then [((i : Nat) : Int)] else []):=by rw [Vs hx,Znq,← h2,List.length_take,Nat.min_eq_left (by omega),Nat.zero_add]
      refine .inl ⟨(i + 1,l1 ++ [Zhn x],l2 ++ (if x.Auto=true then [((i : Nat) : Int)] else [])),?_,⟨by simp only;omega,e1.symm,e2.symm⟩,by simp only;omega⟩;simp only [Ho,Zc5,hlt,hx,decide_true,cond_true,Option.bind_some,Zhn]
      rcases Bool.eq_false_or_eq_true x.Auto with e|e
      · simp only [e,cond_true,chk,c1,c2,if_true,Option.bind_some]
      · simp only [e,cond_false,chk,c1,if_true,Option.bind_some,Bool.false_eq_true,if_false,List.append_nil]
    · refine .inr ⟨(l1,l2),?_,?_⟩
      · simp only [Ho,hlt,decide_false,cond_false]
      · have : p.Procs.take i=p.Procs:=List.take_of_length_le (by omega);rw [this] at h1 h2;rw [h1,h2]) (s:=(0,[],[])) ⟨Nat.zero_le _,rfl,rfl⟩
  obtain⟨_,hA,rfl⟩:=hA;have hB:=Ze3 (L:=Hl p) (fun s : Nat × List GPage=>s.1 ≤ p.Pages.length ∧ s.2=(p.Pages.take s.1).map Ze4) (fun r=>r=p.Pages.map Ze4) (fun s=>p.Pages.length - s.1) (fun s hI=>by
    obtain⟨i,l1⟩:=s;obtain⟨hi,h1⟩:=hI;simp only at hi h1
    by_cases hlt : i < p.Pages.length
    · have hx : p.Pages[i]? = some p.Pages[i]:=List.getElem?_eq_getElem hlt;have hsx:=(okK.pag p.Pages[i] (List.getElem_mem hlt)).2.2
      generalize p.Pages[i]=x at hx hsx
      have hl1 : l1.length=i:=by rw [h1];simp;omega
      have hp:=ok.pg1;have c1 : ∀ t : GPage,(l1.length + [t].length) * 80 ≤ 140737488355328:=fun t=>by simp only [List.length_cons,List.length_nil];omega
      have e1 : (p.Pages.take (i + 1)).map Ze4=l1 ++ [Ze4 x]:=by rw [Vs hx,List.map_append,h1];rfl
      refine .inl ⟨(i + 1,l1 ++ [Ze4 x]),?_,⟨by simp only;omega,e1.symm⟩,by simp only;omega⟩;simp only [Hl,hlt,hx,Zty p i x hx hsx,decide_true,cond_true,Option.bind_some,chk,c1,if_true]
    · refine .inr ⟨l1,?_,?_⟩
      · simp only [Hl,hlt,decide_false,cond_false]
      · have : p.Pages.take i=p.Pages:=List.take_of_length_le (by omega);rw [this] at h1;rw [h1]) (s:=(0,[])) ⟨Nat.zero_le _,rfl⟩
  obtain⟨_,hB,rfl⟩:=hB;have c0:=ok.ev0;have c1:=ok.ev1;have hC:=Ze3 (L:=Hn p) (fun s : Int × List Bool=>∃ k : Nat,(k : Int) ≤ p.Events ∧ s.1=(k : Int) ∧ s.2=List.replicate k false) (fun r=>r=List.replicate p.Events.toNat false) (fun s=>p.Events.toNat - s.1.toNat) (fun s hI=>by
    obtain⟨z,l⟩:=s;obtain⟨k,hk,hz,hl⟩:=hI;simp only at hz hl;subst hz hl
    by_cases hlt : (k : Int) < p.Events
    · have hw : IntKind.i64.wrap ((k : Int) + 1)=((k + 1 : Nat) : Int):=by rw [Jw ⟨by omega,by omega⟩];omega
      have c : ((List.replicate k false).length + [false].length) * 1 ≤ 140737488355328:=by simp;omega
      refine .inl ⟨(((k + 1 : Nat) : Int),List.replicate (k + 1) false),?_,⟨k + 1,by omega,rfl,rfl⟩,by simp only;omega⟩;simp only [Hn,hlt,hw,chk,c,if_true,decide_true,cond_true];rw [List.replicate_succ']
    · refine .inr ⟨List.replicate k false,?_,?_⟩
      · simp only [Hn,hlt,decide_false,cond_false]
      · congr 1;omega) (s:=(0,[])) ⟨0,by omega,rfl,rfl⟩
  obtain⟨_,hC,rfl⟩:=hC;have hD:=Ze3 (L:=Hm p) (fun s : Nat × List GPort=>s.1 ≤ p.Ports.length ∧ s.2=List.replicate s.1 ⟨[],0⟩) (fun r=>r=List.replicate p.Ports.length ⟨[],0⟩) (fun s=>p.Ports.length - s.1) (fun s hI=>by
    obtain⟨i,l⟩:=s;obtain⟨hi,hl⟩:=hI;simp only at hi hl;subst hl;have hp:=ok.po1
    by_cases hlt : i < p.Ports.length
    · have c : ((List.replicate i (⟨[],0⟩ : GPort)).length + 1) * 32 ≤ 140737488355328:=by simp;omega
      refine .inl ⟨(i + 1,List.replicate (i + 1) ⟨[],0⟩),?_,⟨by simp only;omega,rfl⟩,by simp only;omega⟩;simp only [Hm,hlt,chk,c,if_true,decide_true,cond_true];rw [List.replicate_succ']
    · refine .inr ⟨List.replicate i ⟨[],0⟩,?_,?_⟩
      · simp only [Hm,hlt,decide_false,cond_false]
      · congr 1;omega) (s:=(0,[])) ⟨Nat.zero_le _,rfl⟩
  obtain⟨_,hD,rfl⟩:=hD;have c2 : (([] : List Int).length + p.Sems.length) * 8 ≤ 140737488355328:=by have:=ok.se1;simp only [List.length_nil];omega
  simp only [Zbq,chk,c2,hA,hB,hC,hD,Option.bind_some,if_true,List.nil_append];rfl
theorem Zbn {α : Type} {L : Nat → Option (Nat ⊕ (Unit ⊕ Bool))} {l : List α} (h : ∀ i x,i < l.length → l[i]? = some x → L i=some (.inl (i + 1))) (h2 : L l.length=some (.inr (.inl ()))) : Kq L 0=some (.inl ()):=by
  have hL:=Ua (L:=L) (l:=l) (f:=fun _ _=>none) (fun i x hi hx=>by rw [h i x hi hx,Zb1]) h2;rw [hL];have : ∀ (l : List α) k,Xx (fun (_ : Nat) (_ : α)=>(none : Option Bool)) k l=none:=by
    intro l
    induction l with
    | nil=>intro k;rfl
    | cons x r ih=>intro k;rw [Xx];exact ih _
  rw [this];rfl
theorem Zmm (l : List Int) : Zdc l l=some true:=by
  have h:=Zbn (L:=Tp l l) (l:=l) (fun i x hi hx=>by
    simp only [Tp,hi,hx,decide_true,cond_true,Option.bind_some,Bool.not_true,cond_false]) (by simp [Tp])
  simp only [Zdc,h,decide_true,Bool.not_true,cond_false,Option.bind_some]
theorem Zmn (s : GState) : Zes s s=some true:=by
  have h1:=Zbn (L:=Hk s s) (l:=s.Procs) (fun i x hi hx=>by
    simp only [Hk,hi,hx,decide_true,cond_true,Option.bind_some,Bool.not_true,cond_false]) (by simp [Hk])
  have h2:=Zbn (L:=Hj s s) (l:=s.Timers) (fun i x hi hx=>by
    simp only [Hj,hi,hx,decide_true,cond_true,Option.bind_some,Bool.not_true,cond_false]) (by simp [Hj])
  have h3:=Zbn (L:=Hi s s) (l:=s.Up) (fun i x hi hx=>by
    simp only [Hi,hi,hx,decide_true,cond_true,Option.bind_some,beq_self_eq_true,Bool.not_true,cond_false]) (by simp [Hi])
  have h4:=Zbn (L:=Hh s s) (l:=s.Ports) (fun i x hi hx=>by
    have h:=Zbn (L:=Hg s s i) (l:=x.Msgs) (fun j m hj hm=>by
      simp only [Hg,hx,hj,hm,decide_true,cond_true,Option.bind_some,Bool.not_true,cond_false]) (by simp [Hg,hx])
    simp only [Hh,Zbw,hi,hx,h,decide_true,cond_true,Option.bind_some,Bool.not_true,cond_false]) (by simp [Hh])
  simp only [Zes,h1,h2,h3,h4,Zmm,decide_true,Bool.not_true,Bool.or_false,cond_false,cond_true,Option.bind_some]
theorem Zh8 (s : GState) : Zdd s s=some true:=by
  have h:=Zbn (L:=Tq s s) (l:=s.Pages) (fun i x hi hx=>by
    simp only [Tq,hi,hx,decide_true,cond_true,Option.bind_some,Bool.not_true,cond_false]) (by simp [Tq])
  simp only [Zdd,Zc4,Zmn,h,decide_true,Bool.not_true,cond_false,Option.bind_some]
structure OkS (s : GState) : Prop where
  a : s.Procs.length * 104 ≤ 140737488355328
  b : s.Ready.length * 8 ≤ 140737488355328
  c : s.Timers.length * 16 ≤ 140737488355328
  d : s.Up.length * 1 ≤ 140737488355328
  e : s.Sems.length * 8 ≤ 140737488355328
  f : s.Pages.length * 80 ≤ 140737488355328
  g : s.Ports.length * 32 ≤ 140737488355328
  h : ∀ x ∈ s.Ports,x.Msgs.length * 16 ≤ 140737488355328
theorem OkS.sm {s : GState} (ok : OkS s) : Zpl s:=by
  obtain⟨ha,hb,hc,hd,he,hf,hg,hh⟩:=ok;exact⟨⟨by omega,by omega,by omega⟩,by omega,by omega⟩
theorem Zgu {s : GState} (ok : OkS s) : To s=some s:=by
  obtain⟨ha,hb,hc,hd,he,hf,hg,hh⟩:=ok;have hL:=Ws (L:=Tn s) (fun t : Nat × List GPort=>t.1 ≤ s.Ports.length ∧ t.2=s.Ports.take t.1) (fun r=>r=s.Ports) (fun t=>s.Ports.length - t.1) (fun t hI=>by
    obtain⟨i,l1⟩:=t;obtain⟨hi,h1⟩:=hI;simp only at hi h1
    by_cases hlt : i < s.Ports.length
    · have hx : s.Ports[i]? = some s.Ports[i]:=List.getElem?_eq_getElem hlt;have hm:=hh _ (List.getElem_mem hlt)
      generalize s.Ports[i]=x at hx hm
      have hl1 : l1.length=i:=by rw [h1];simp;omega
      have c1 : (([] : List ByteArray).length + x.Msgs.length) * 16 ≤ 140737488355328:=by simp only [List.length_nil];omega
      have c2 : (l1.length + 1) * 32 ≤ 140737488355328:=by omega
      refine .inl ⟨(i + 1,l1 ++ [x]),?_,⟨by simp only;omega,by simp only;rw [Ze2 hx,h1]⟩,by simp only;omega⟩;simp only [Tn,hlt,hx,decide_true,cond_true,Option.bind_some,chk,c1,c2,if_true,List.nil_append]
    · refine .inr ⟨l1,?_,?_⟩
      · simp only [Tn,hlt,decide_false,cond_false]
      · rw [h1,List.take_of_length_le (by omega)]) (s:=(0,[])) ⟨Nat.zero_le _,rfl⟩
  obtain⟨_,hL,rfl⟩:=hL;have c1 : (([] : List GProc).length + s.Procs.length) * 104 ≤ 140737488355328:=by simp only [List.length_nil];omega
  have c2 : (([] : List Int).length + s.Ready.length) * 8 ≤ 140737488355328:=by simp only [List.length_nil];omega
  have c3 : (([] : List GTimer).length + s.Timers.length) * 16 ≤ 140737488355328:=by simp only [List.length_nil];omega
  have c4 : (([] : List Bool).length + s.Up.length) * 1 ≤ 140737488355328:=by simp only [List.length_nil];omega
  have c5 : (([] : List Int).length + s.Sems.length) * 8 ≤ 140737488355328:=by simp only [List.length_nil];omega
  have c6 : (([] : List GPage).length + s.Pages.length) * 80 ≤ 140737488355328:=by simp only [List.length_nil];omega
  simp only [To,chk,c1,c2,c3,c4,c5,c6,if_true,hL,Option.bind_some,List.nil_append]
theorem Zsi {α : Type} {l : List α} {i : Nat} {x : α} (h : l[i]? = some x) : l.set i x=l:=by
  apply List.ext_getElem?;intro j;rw [List.getElem?_set]
  by_cases e : i=j
  · subst e;rw [if_pos rfl,if_pos (List.getElem?_eq_some_iff.1 h).1,h]
  · rw [if_neg e]
theorem Zfq {s : GState} (ok : OkS s) : Hz s=some s:=by
  obtain⟨ha,hb,hc,hd,he,hf,hg,hh⟩:=ok;have hL:=Ws (L:=Uo s) (fun t : Nat × Nat × List GPort=>t.1 ≤ s.Ports.length ∧ t.2.1=t.1 ∧ t.2.2=s.Ports) (fun r=>r=(s.Ports.length,s.Ports)) (fun t=>s.Ports.length - t.1) (fun t hI=>by
    obtain⟨i,j,l⟩:=t;obtain⟨hi,hj,hl⟩:=hI;simp only at hi hj hl;subst hj hl
    by_cases hlt : j < s.Ports.length
    · have hx : s.Ports[j]? = some s.Ports[j]:=List.getElem?_eq_getElem hlt;have hm:=hh _ (List.getElem_mem hlt)
      generalize s.Ports[j]=x at hx hm
      have c1 : (([] : List ByteArray).length + x.Msgs.length) * 16 ≤ 140737488355328:=by simp only [List.length_nil];omega
      refine .inl ⟨(j + 1,j + 1,s.Ports),?_,⟨by simp only;omega,rfl,rfl⟩,by simp only;omega⟩;have hset : s.Ports.set j ⟨x.Msgs,x.Age⟩=s.Ports:=Zsi hx;simp only [Uo,Ww,hlt,hx,hset,decide_true,cond_true,Option.bind_some,chk,c1,if_true,List.nil_append]
    · obtain rfl : j=s.Ports.length:=by omega
      exact .inr ⟨(s.Ports.length,s.Ports),by simp only [Uo,hlt,decide_false,cond_false],rfl⟩) (s:=(0,0,s.Ports)) ⟨Nat.zero_le _,rfl,rfl⟩
  obtain⟨_,hL,rfl⟩:=hL;have c1 : (([] : List GProc).length + s.Procs.length) * 104 ≤ 140737488355328:=by simp only [List.length_nil];omega
  have c2 : (([] : List Int).length + s.Ready.length) * 8 ≤ 140737488355328:=by simp only [List.length_nil];omega
  have c3 : (([] : List GTimer).length + s.Timers.length) * 16 ≤ 140737488355328:=by simp only [List.length_nil];omega
  have c4 : (([] : List Bool).length + s.Up.length) * 1 ≤ 140737488355328:=by simp only [List.length_nil];omega
  have c5 : (([] : List Int).length + s.Sems.length) * 8 ≤ 140737488355328:=by simp only [List.length_nil];omega
  have c6 : (([] : List GPage).length + s.Pages.length) * 80 ≤ 140737488355328:=by simp only [List.length_nil];omega
  have c7 : (([] : List GPort).length + s.Ports.length) * 32 ≤ 140737488355328:=by simp only [List.length_nil];omega
  simp only [Hz,Gn,Wv,Ug,Gp,Jf,chk,c1,c2,c3,c4,c5,c6,c7,if_true,hL,Option.bind_some,List.nil_append]
def atE (p : GPlan) (s : GState) : ErrM:=if Zcm p ≠ .nil then .v Zb3 else if Wi p s=[] then .nil else .v Ts
theorem Zpm (p : GPlan) (s : GState) : Zk1 p s 17=if Zcm p ≠ .nil then .v Zb3 else match Wi p s with
    | []=>.nil
    | x :: _=>.pl x Ts := by
  unfold Zk1
  by_cases h : Zcm p=.nil
  · rw [if_neg (fun c=>c h)];have hm : ∀ x ∈ Wi p s,1 ≤ x ∧ x ≤ 17:=fun x hx=>by
      unfold Wi at hx;rw [if_neg (fun c=>c h)] at hx;have:=Zr4 _ _ _ hx;have h17 : (Zim p s).toList.length=17:=by simp
      omega
    cases hf : Wi p s with
    | nil=>rfl
    | cons x r=>
      have:=hm x (by rw [hf];exact List.mem_cons_self ..);simp only;rw [if_neg (by omega),if_neg (by omega)]
  · rw [if_pos h];have hf : Wi p s=[0]:=by unfold Wi;rw [if_pos h]
    rw [hf];rfl
theorem Zka (p : GPlan) : ∀ (l : List GState),(∀ s ∈ l,OkS s) → Kw p l=some (orN (Xx (fun _ s=>if atE p s=.nil then none else some (atE p s)) 0 l)):=by
  intro l hl;have hL:=Ua (L:=Yi p l) (l:=l) (f:=fun _ s=>if atE p s=.nil then none else some (atE p s)) (fun i s hi hx=>by
    have hr:=Zin p s (hl s (List.mem_of_getElem? hx)).sm.1;rw [Zpm] at hr
    by_cases h : Zcm p=.nil
    · rw [if_neg (fun c=>c h)] at hr;cases hf : Wi p s with
      | nil=>
        have ea : atE p s=.nil:=by unfold atE;rw [if_neg (fun c=>c h),if_pos hf]
        rw [ea];rw [hf] at hr;have g0 : ¬ (ErrM.nil.g? = some Zb3):=by decide
        simp only [Yi,hi,hx,hr,g0,decide_true,decide_false,cond_true,cond_false,Option.bind_some,Bool.not_true,if_true,Zb1]
      | cons x r=>
        have ea : atE p s=.v Ts:=by unfold atE;rw [if_neg (fun c=>c h),if_neg (by rw [hf];intro h;cases h)]
        rw [ea];rw [hf] at hr;have g0 : ¬ ((ErrM.pl x Ts).g? = some Zb3):=by intro h;exact absurd (Option.some.inj h) (by decide)
        have g1 : ¬ (ErrM.pl x Ts=.nil):=fun h=>by cases h
        have g3 : ¬ (ErrM.v Ts=.nil):=fun h=>by cases h
        simp only [Yi,hi,hx,hr,g0,g1,g3,decide_true,decide_false,cond_true,cond_false,Option.bind_some,Bool.not_false,if_false,Zak]
    · have ea : atE p s=.v Zb3:=by unfold atE;rw [if_pos h]
      rw [ea];rw [if_pos h] at hr;have g0 : (ErrM.v Zb3).g? = some Zb3:=rfl;have g3 : ¬ (ErrM.v Zb3=.nil):=fun h=>by cases h
      simp only [Yi,hi,hx,hr,g0,g3,decide_true,cond_true,Option.bind_some,if_false,Zak]) (by simp [Yi])
  simp only [Kw,hL];cases Xx (fun (_ : Nat) s=>if atE p s=.nil then none else some (atE p s)) 0 l <;> rfl
theorem Zns {p : GPlan} {s : GState} (h : OkS s) : Kw p [s]=some (atE p s):=by
  rw [Zka p [s] (fun x hx=>by rw [List.mem_singleton.1 hx];exact h)]
  by_cases e : atE p s=.nil <;> simp [Xx,e,orN]
theorem Zsj {p : GPlan} {s t : GState} (h : OkS s) (k : OkS t) : Kw p [s,t]=some (orE (atE p s) (atE p t)):=by
  rw [Zka p [s,t] (fun x hx=>by
    rcases List.mem_cons.1 hx with rfl|hx
    · exact h
    · rw [List.mem_singleton.1 hx];exact k)]
  by_cases e : atE p s=.nil <;> by_cases e' : atE p t=.nil <;> simp [Xx,e,e',orN,orE]
theorem cPlanE : (ErrM.v Zb3).code=8:=by decide
theorem same17 {e : ErrM} {c : Int} (h : e.code=c) (hp : e.place=-1) : Zau e c=some true:=by
  simp only [Zau,h,hp,decide_true,cond_true]
theorem Zkb {p : GPlan} {s : GState} (h : atE p s=.nil) : Zcm p=.nil ∧ Wi p s=[]:=by
  unfold atE at h
  by_cases e : Zcm p=.nil
  · rw [if_neg (fun c=>c e)] at h
    by_cases f : Wi p s=[]
    · exact⟨e,f⟩
    · rw [if_neg f] at h;cases h
  · rw [if_pos e] at h;cases h
theorem Zoy : ∀ (l : List Bool) (k : Nat),brk k l=[] → ∀ b ∈ l,b=true
  | [],_,_,b,hb=>by cases hb
  | x :: r,k,h,b,hb=>by
    rw [brk] at h;have h1:=List.append_eq_nil_iff.1 h
    rcases List.mem_cons.1 hb with rfl|hb
    · by_cases e : b=true
      · exact e
      · rw [if_neg e] at h1;cases h1.1
    · exact Zoy r (k + 1) h1.2 b hb
theorem Znt {p : GPlan} {s : GState} (h : atE p s=.nil) : K3 p s=true ∧ K13 p s=true:=by
  obtain⟨h1,h2⟩:=Zkb h;unfold Wi at h2;rw [if_neg (fun c=>c h1)] at h2;have:=Zoy _ _ h2;exact⟨this _ (by simp [Zim]),this _ (by simp [Zim])⟩
theorem Zdf {p : GPlan} {s : GState} (h : atE p s=.nil) : s.Pages.length=p.Pages.length:=by
  have:=(Znt h).1;unfold K3 at this;simp only [Bool.and_eq_true,decide_eq_true_eq] at this;omega
def Zd9 {α : Type} (q : α → Bool) : Nat → List α → List Int
  | _,[]=>[]
  | k,x :: r=>(if q x=true then [((k : Nat) : Int)] else []) ++ Zd9 q (k + 1) r
theorem Znu {α : Type} (q : α → Bool) (x : α) : ∀ (l : List α) (k : Nat),Zd9 q k (l ++ [x])=Zd9 q k l ++ (if q x=true then [((k + l.length : Nat) : Int)] else [])
  | [],k=>by simp [Zd9]
  | y :: r,k=>by
    rw [List.cons_append,Zd9,Znu q x r (k + 1),Zd9,List.append_assoc,List.length_cons,show k + 1 + r.length=k + (r.length + 1) by omega]
theorem Zmo {α : Type} (q : α → Bool) : ∀ (l : List α) (k : Nat),(Zd9 q k l).length ≤ l.length
  | [],_=>Nat.le_refl _
  | y :: r,k=>by
    have:=Zmo q r (k + 1);rw [Zd9,List.length_append,List.length_cons];split <;> simp <;> omega
theorem Ztz {α : Type} {L : List Int × Nat → Option ((List Int × Nat) ⊕ List Int)} {l : List α} (q : α → Bool) (hs : l.length * 8 ≤ 140737488355328)
    (h : ∀ (z : List Int) (i : Nat) (x : α),i < l.length → l[i]? = some x → (z.length + 1) * 8 ≤ 140737488355328 → L (z,i)=some (.inl (z ++ (if q x=true then [((i : Nat) : Int)] else []),i + 1))) (h2 : ∀ z,L (z,l.length)=some (.inr z)) :
    Kq L ([],0)=some (Zd9 q 0 l):=by
  have hL:=Ws (L:=L) (fun t=>t.2 ≤ l.length ∧ t.1=Zd9 q 0 (l.take t.2)) (fun r=>r=Zd9 q 0 l) (fun t=>l.length - t.2) (fun t hI=>by
    obtain⟨z,i⟩:=t;obtain⟨hi,hz⟩:=hI;simp only at hi hz
    by_cases hlt : i < l.length
    · have hx : l[i]? = some l[i]:=List.getElem?_eq_getElem hlt;have hn:=Zmo q (l.take i) 0;rw [← hz,List.length_take] at hn;refine .inl ⟨_,h z i _ hlt hx (by omega),⟨by simp only;omega,?_⟩,by simp only;omega⟩;simp only;rw [Ze2 hx,Znu,hz,List.length_take,Nat.min_eq_left (by omega),Nat.zero_add]
    · obtain rfl : i=l.length:=by omega
      exact .inr ⟨z,h2 z,by rw [hz,List.take_length]⟩) (s:=([],0)) ⟨Nat.zero_le _,rfl⟩
  obtain⟨_,hL,rfl⟩:=hL;exact hL
theorem Zcp (l : List GPage) (hs : l.length * 80 ≤ 140737488355328) : Kr l=some (Zd9 GPage.Dirty 0 l):=by
  have hL:=Ztz (L:=Yq l) (l:=l) GPage.Dirty (by omega) (fun z i x hi hx hz=>by
    have c : (z.length + [((i : Nat) : Int)].length) * 8 ≤ 140737488355328:=by simpa using hz
    rcases Bool.eq_false_or_eq_true x.Dirty with e|e
    · simp only [Yq,Un,hi,hx,e,chk,c,if_true,decide_true,cond_true,Option.bind_some]
    · simp only [Yq,Un,hi,hx,e,decide_true,cond_true,cond_false,Option.bind_some,Bool.false_eq_true,if_false,List.append_nil]) (fun z=>by simp [Yq])
  simp only [Kr,hL,Option.bind_some]
def Ub (x : GPage) : GPage:=⟨x.Rights,false,x.Data⟩
theorem Zqk {l : List GPage} {i : Nat} {x : GPage} (hx : l[i]? = some x) : ((l.take i).map Ub ++ l.drop i).set i (Ub x)=(l.take (i + 1)).map Ub ++ l.drop (i + 1):=by
  have hlt:=(List.getElem?_eq_some_iff.1 hx).1;have hl : ((l.take i).map Ub).length=i:=by simp;omega
  have hd : l.drop i=x :: l.drop (i + 1):=by
    rw [List.drop_eq_getElem_cons hlt];congr 1;exact Option.some.inj ((List.getElem?_eq_getElem hlt).symm.trans hx)
  rw [List.set_append_right _ _ (by omega),hl,Nat.sub_self,hd,List.set_cons_zero,Ze2 hx];simp
theorem Zql (l : List GPage) (hs : l.length * 80 ≤ 140737488355328) : Zb8 l=some (l.map Ub):=by
  have c : (([] : List GPage).length + l.length) * 80 ≤ 140737488355328:=by simp only [List.length_nil];omega
  have hL:=Ws (L:=Uq l) (fun t=>t.2 ≤ l.length ∧ t.1=(l.take t.2).map Ub ++ l.drop t.2) (fun r=>r=l.map Ub) (fun t=>l.length - t.2) (fun t hI=>by
    obtain⟨z,i⟩:=t;obtain⟨hi,hz⟩:=hI;simp only at hi hz
    by_cases hlt : i < l.length
    · have hx : l[i]? = some l[i]:=List.getElem?_eq_getElem hlt
      generalize l[i]=x at hx
      have hx' : z[i]? = some x:=by
        rw [hz,List.getElem?_append_right (by simp;omega)];simp only [List.length_map,List.length_take,Nat.min_eq_left (Nat.le_of_lt hlt),Nat.sub_self,List.getElem?_drop,Nat.add_zero,hx]
      refine .inl ⟨(z.set i (Ub x),i + 1),?_,⟨by simp only;omega,by simp only;rw [hz,Zqk hx]⟩,by simp only;omega⟩;simp only [Uq,hlt,hx',decide_true,cond_true,Option.bind_some,Ub]
    · obtain rfl : i=l.length:=by omega
      refine .inr ⟨z,by simp only [Uq,hlt,decide_false,cond_false],?_⟩;rw [hz,List.take_length,List.drop_length,List.append_nil]) (s:=(l,0)) ⟨Nat.zero_le _,by simp⟩
  obtain⟨_,hL,rfl⟩:=hL;simp only [Zb8,Gr,Jf,chk,c,if_true,List.nil_append,hL,Option.bind_some]
section
variable {σ ρ τ : Type}
end
def mkS (s : GState) : GState:=⟨s.Id,s.Frame,IntKind.i64.wrap (s.Epoch + 1),s.Procs,s.Ready,s.Timers,s.Up,s.Sems,s.Ports,s.Pages.map Ub⟩
def zS : GState:=⟨0,0,0,[],[],[],[],[],[],[]⟩
theorem Zfr {p : GPlan} {s : GState} (ok : OkS s) : Jq p s=some (if atE p s=.nil then (if s.Epoch=2147483647 then (zS,.v Ztk) else (mkS s,.nil)) else (zS,atE p s)):=by
  have h1:=Zns (p:=p) ok
  by_cases e : atE p s=.nil
  · by_cases m : s.Epoch=2147483647
    · simp only [Jq,h1,e,m,zS,decide_true,Bool.not_true,cond_false,cond_true,Option.bind_some,if_true]
    · simp only [Jq,h1,e,m,mkS,Zfq ok,Zql _ ok.f,decide_true,decide_false,Bool.not_true,cond_false,Option.bind_some,if_true,if_false]
  · simp only [Jq,h1,e,zS,decide_false,Bool.not_false,cond_true,Option.bind_some,if_false]
theorem Zpn {α : Type} {q : α → Bool} : ∀ {l : List α} {k : Nat} {n : Int},n ∈ Zd9 q k l → ∃ i x,l[i]? = some x ∧ n=((k + i : Nat) : Int)
  | [],_,_,h=>by cases h
  | x :: r,k,n,h=>by
    rw [Zd9,List.mem_append] at h
    rcases h with h|h
    · split at h
      · rw [List.mem_singleton] at h;exact⟨0,x,rfl,by simpa using h⟩
      · cases h
    · obtain⟨i,y,h1,h2⟩:=Zpn h;exact⟨i + 1,y,by simpa using h1,by rw [h2];congr 1;omega⟩
def Zmt (ps : List GPage) (l : List Int) : List GPage:=l.filterMap fun n=>(rdI ps n).map Ub
theorem Zt0 (ps : List GPage) (l : List Int) : (Zmt ps l).length ≤ l.length:=List.length_filterMap_le ..
theorem Zt1 {L : List GPage × Nat → Option ((List GPage × Nat) ⊕ List GPage)} {ps : List GPage} {l : List Int} (hl : ∀ n ∈ l,∃ x,rdI ps n=some x) (hs : l.length * 80 ≤ 140737488355328)
    (h : ∀ (z : List GPage) (i : Nat) (n : Int) (x : GPage),i < l.length → l[i]? = some n → rdI ps n=some x → (z.length + 1) * 80 ≤ 140737488355328 → L (z,i)=some (.inl (z ++ [Ub x],i + 1))) (h2 : ∀ z,L (z,l.length)=some (.inr z)) :
    Kq L ([],0)=some (Zmt ps l):=by
  have hL:=Ws (L:=L) (fun t=>t.2 ≤ l.length ∧ t.1=Zmt ps (l.take t.2)) (fun r=>r=Zmt ps l) (fun t=>l.length - t.2) (fun t hI=>by
    obtain⟨z,i⟩:=t;obtain⟨hi,hz⟩:=hI;simp only at hi hz
    by_cases hlt : i < l.length
    · have hx : l[i]? = some l[i]:=List.getElem?_eq_getElem hlt;have hm:=List.getElem_mem hlt
      generalize l[i]=n at hx hm
      obtain⟨x,hr⟩:=hl n hm;have hn:=Zt0 ps (l.take i);rw [← hz,List.length_take] at hn;refine .inl ⟨_,h z i n x hlt hx hr (by omega),⟨by simp only;omega,?_⟩,by simp only;omega⟩;simp only;rw [Ze2 hx,hz];simp [Zmt,List.filterMap_append,hr]
    · obtain rfl : i=l.length:=by omega
      exact .inr ⟨z,h2 z,by rw [hz,List.take_length]⟩) (s:=([],0)) ⟨Nat.zero_le _,rfl⟩
  obtain⟨_,hL,rfl⟩:=hL;exact hL
theorem Zt2 {L : List GPage × Nat → Option ((List GPage × Nat) ⊕ List GPage)} {s : GState} (ok : OkS s)
    (h : ∀ (z : List GPage) (i : Nat) (n : Int) (x : GPage),i < (Zd9 GPage.Dirty 0 s.Pages).length → (Zd9 GPage.Dirty 0 s.Pages)[i]? = some n → rdI s.Pages n=some x → (z.length + 1) * 80 ≤ 140737488355328 → L (z,i)=some (.inl (z ++ [Ub x],i + 1))) (h2 : ∀ z,L (z,(Zd9 GPage.Dirty 0 s.Pages).length)=some (.inr z)) :
    Kq L ([],0)=some (Zmt s.Pages (Zd9 GPage.Dirty 0 s.Pages)):=
  Zt1 (fun n hn=>by
    obtain⟨i,x,h1,rfl⟩:=Zpn hn;exact⟨x,by rw [Nat.zero_add,Zhc];exact h1⟩) (by have:=Zmo GPage.Dirty s.Pages 0;have:=ok.f;omega) h h2
def bare (s : GState) : GState:=⟨s.Id,s.Frame,s.Epoch,s.Procs,s.Ready,s.Timers,s.Up,s.Sems,s.Ports,[]⟩
def Zvs (x y : GPage) : Bool:=decide (x.Rights=y.Rights) && decide (x.Data=y.Data)
def Zoz (a b : GState) : Bool:=decide (a.Id=b.Id) && (decide (a.Frame=b.Frame) && (decide (a.Procs=b.Procs) && (decide (a.Ready=b.Ready) && (decide (a.Timers=b.Timers) && (decide (a.Up=b.Up) && (decide (a.Sems=b.Sems) && decide (a.Ports=b.Ports)))))))
def Zll (a b : GState) : Bool:=Zoz a b && (decide (a.Pages.length=b.Pages.length) && (a.Pages.zip b.Pages).all fun p=>Zvs p.1 p.2)
theorem Zo0 (a b : List GProc) : Yr a b=some (decide (a=b)):=by
  by_cases hl : a.length=b.length
  · have h:=Zgz (L:=Ju a b) hl (fun i x y hi hx hy=>by
      simp only [Ju,hi,hx,hy,decide_true,cond_true,Option.bind_some]
      by_cases e : x=y <;> simp [e]) (by simp [Ju])
    simp only [Yr,hl,decide_true,Bool.not_true,cond_false,h,Option.bind_some]
    by_cases e : a=b <;> simp [e]
  · simp only [Yr,hl,decide_false,Bool.not_false,cond_true,Zil hl]
theorem Znv (a b : List GTimer) : Yg a b=some (decide (a=b)):=by
  by_cases hl : a.length=b.length
  · have h:=Zgz (L:=Jn a b) hl (fun i x y hi hx hy=>by
      simp only [Jn,hi,hx,hy,decide_true,cond_true,Option.bind_some]
      by_cases e : x=y <;> simp [e]) (by simp [Jn])
    simp only [Yg,hl,decide_true,Bool.not_true,cond_false,h,Option.bind_some]
    by_cases e : a=b <;> simp [e]
  · simp only [Yg,hl,decide_false,Bool.not_false,cond_true,Zil hl]
theorem Zmp (a b : List ByteArray) : Kj a b=some (decide (a=b)):=by
  by_cases hl : a.length=b.length
  · have h:=Zgz (L:=Xz a b) hl (fun i x y hi hx hy=>by
      simp only [Xz,hi,hx,hy,decide_true,cond_true,Option.bind_some]
      by_cases e : x=y <;> simp [e]) (by simp [Xz])
    simp only [Kj,hl,decide_true,Bool.not_true,cond_false,h,Option.bind_some]
    by_cases e : a=b <;> simp [e]
  · simp only [Kj,hl,decide_false,Bool.not_false,cond_true,Zil hl]
theorem Zo1 (a b : List Bool) : Ys a b=some (decide (a=b)):=by
  by_cases hl : a.length=b.length
  · have h:=Zgz (L:=Jv a b) hl (fun i x y hi hx hy=>by
      simp only [Jv,hi,hx,hy,decide_true,cond_true,Option.bind_some];cases x <;> cases y <;> simp) (by simp [Jv])
    simp only [Ys,hl,decide_true,Bool.not_true,cond_false,h,Option.bind_some]
    by_cases e : a=b <;> simp [e]
  · simp only [Ys,hl,decide_false,Bool.not_false,cond_true,Zil hl]
theorem Zt3 {x y : GPort} : x=y ↔ x.Age=y.Age ∧ x.Msgs=y.Msgs:=by
  cases x;cases y;simp only [GPort.mk.injEq];exact And.comm
theorem Zo2 (a b : List GPort) : Jo a b (fun x0 x1=>Wb x0 x1)=some (decide (a=b)):=by
  by_cases hl : a.length=b.length
  · have h:=Zgz (L:=Xl a b (fun x0 x1=>Wb x0 x1)) hl (fun i x y hi hx hy=>by
      simp only [Xl,Wb,Zmp,hi,hx,hy,decide_true,cond_true,Option.bind_some]
      by_cases e1 : x.Age=y.Age
      · by_cases e2 : x.Msgs=y.Msgs
        · have : x=y:=Zt3.2 ⟨e1,e2⟩;simp [e1,e2,this]
        · have : ¬ x=y:=fun h=>e2 (by rw [h])
          simp [e1,e2,this]
      · have : ¬ x=y:=fun h=>e1 (by rw [h])
        simp [e1,this]) (by simp [Xl])
    simp only [Jo,hl,decide_true,Bool.not_true,cond_false,h,Option.bind_some]
    by_cases e : a=b <;> simp [e]
  · simp only [Jo,hl,decide_false,Bool.not_false,cond_true,Zil hl]
theorem Zgv (a b : GState) : Za3 a b=some (Zoz a b):=by
  simp only [Za3,Zo0,Zp5,Znv,Zo1,Zo2,Option.bind_some];unfold Zoz
  by_cases h1 : a.Id=b.Id <;> by_cases h2 : a.Frame=b.Frame <;> by_cases h3 : a.Procs=b.Procs <;> by_cases h4 : a.Ready=b.Ready <;> by_cases h5 : a.Timers=b.Timers <;> by_cases h6 : a.Up=b.Up <;> by_cases h7 : a.Sems=b.Sems <;> simp only [h1,h2,h3,h4,h5,h6,h7,decide_true,decide_false,cond_true,cond_false,Bool.true_and,Bool.false_and]
theorem Znw (a b : GState) : Gs a b=some (Zll a b):=by
  unfold Zll
  by_cases hr : Zoz a b=true
  · by_cases hl : a.Pages.length=b.Pages.length
    · have h:=Zng (L:=Xm a.Pages b.Pages (fun x0 x1=>Ur x0 x1)) Zvs hl (fun i x y hi hx hy=>by
        simp only [Xm,Ur,Zvs,hi,hx,hy,decide_true,cond_true,Option.bind_some]
        by_cases e1 : x.Rights=y.Rights <;> by_cases e2 : x.Data=y.Data <;> simp [e1,e2]) (by simp [Xm])
      simp only [Gs,Kz,Zgv,hr,hl,h,decide_true,Bool.not_true,cond_true,cond_false,Option.bind_some,Bool.true_and];cases (a.Pages.zip b.Pages).all fun p=>Zvs p.1 p.2 <;> rfl
    · simp only [Gs,Kz,Zgv,hr,hl,decide_false,Bool.not_false,cond_true,Option.bind_some,Bool.true_and,Bool.false_and]
  · have hr : Zoz a b=false:=Bool.eq_false_iff.2 hr;simp only [Gs,Zgv,hr,cond_false,Option.bind_some,Bool.false_and]
theorem Zi0 (a b : GState) : Tr a b=some (Zll a b):=by simp only [Tr,Znw,Option.bind_some]
theorem Zmq (l : List Int) : Ha l l=some true:=by
  have h:=Zbn (L:=Yt l l) (l:=l) (fun i x hi hx=>by
    simp only [Yt,hi,hx,decide_true,cond_true,Option.bind_some,Bool.not_true,cond_false]) (by simp [Yt])
  simp only [Ha,h,decide_true,Bool.not_true,cond_false,Option.bind_some]
theorem etaS (m : GState) : (⟨m.Id,m.Frame,m.Epoch,m.Procs,m.Ready,m.Timers,m.Up,m.Sems,m.Ports,m.Pages⟩ : GState)=m:=rfl
def smP : GPlan:=⟨0,false,[⟨3,⟨#[]⟩⟩,⟨3,⟨#[]⟩⟩,⟨3,⟨#[]⟩⟩],[⟨0,0,false⟩],[],0,[]⟩
def smD : Vector UInt8 64:=(cpyV (Vector.replicate 64 0) (⟨#[]⟩ : ByteArray)).setIfInBounds ((0 : Int).toNat) (Wt 2)
def smS : GState:=⟨0,9,4,(Ko smP).Procs,(Ko smP).Ready,[],[],[],[],[Ze4 ⟨3,⟨#[]⟩⟩,⟨3,true,smD⟩,Ze4 ⟨3,⟨#[]⟩⟩]⟩
def smB : GState:=⟨0,0,4,(Ko smP).Procs,(Ko smP).Ready,[],[],[],[],[Ze4 ⟨3,⟨#[]⟩⟩,Ze4 ⟨3,⟨#[]⟩⟩,Ze4 ⟨3,⟨#[]⟩⟩]⟩
theorem Zsk : Zcm smP=.nil:=by decide +kernel
theorem Zvt : Za4=some (smP,smS):=by
  have h:=Zml Zsk;have e : Ko smP=⟨0,0,0,(Ko smP).Procs,(Ko smP).Ready,[],[],[],[],[Ze4 ⟨3,⟨#[]⟩⟩,Ze4 ⟨3,⟨#[]⟩⟩,Ze4 ⟨3,⟨#[]⟩⟩]⟩:=rfl;unfold Za4;rw [show (⟨0,false,[(⟨3,⟨#[]⟩⟩ : GPagePlan),(⟨3,⟨#[]⟩⟩ : GPagePlan),(⟨3,⟨#[]⟩⟩ : GPagePlan)],[(⟨0,0,false⟩ : GProcPlan)],([] : List GPortPlan),0,([] : List Int)⟩ : GPlan)=smP from rfl,h]
  decide +kernel
theorem Zpo {s : GState} (h : s.Procs.length ≤ 9 ∧ s.Ready.length ≤ 9 ∧ s.Timers.length ≤ 9 ∧ s.Up.length ≤ 9 ∧ s.Sems.length ≤ 9 ∧ s.Pages.length ≤ 9 ∧ s.Ports=[]) : OkS s:=by
  obtain⟨h1,h2,h3,h4,h5,h6,h7⟩:=h;exact⟨by omega,by omega,by omega,by omega,by omega,by omega,by rw [h7];decide,by rw [h7];intro x hx;cases hx⟩
theorem Zo3 : OkS smS:=Zpo (by decide +kernel)
theorem Zvu : OkS smB:=Zpo (by decide +kernel)
theorem okSmM : OkS (mkS smS):=Zpo (by decide +kernel)
theorem okSmR : OkS (bare smS):=Zpo (by decide +kernel)
theorem Zvv : atE smP smS=.nil:=by decide +kernel
theorem atSmB : atE smP smB=.nil:=by decide +kernel
theorem atSmM : atE smP (mkS smS)=.nil:=by decide +kernel
theorem markSm : Jq smP smS=some (mkS smS,.nil):=by
  rw [Zfr Zo3,Zvv,if_pos rfl,if_neg (by decide +kernel)]
theorem Zvw : Yw smP smS=some ([1],.nil):=by
  have h1:=Zns (p:=smP) Zo3;rw [Zvv] at h1;have h2 : Zd9 GPage.Dirty 0 smS.Pages=[1]:=by decide +kernel
  simp only [Yw,h1,Zcp _ Zo3.f,h2,decide_true,Bool.not_true,cond_false,Option.bind_some]
theorem Znx : Kr smB.Pages=some []:=by
  rw [Zcp _ Zvu.f];decide +kernel
theorem Zvx : Wx smP smB smS=some (true,.nil):=by
  have h1:=Zsj (p:=smP) Zvu Zo3;rw [atSmB,Zvv,show orE ErrM.nil ErrM.nil=ErrM.nil from rfl] at h1;have l0 : Xi smB smS 0=some (.inl 1):=by decide +kernel
  have l1 : Xi smB smS 1=some (.inl 2):=by decide +kernel
  have l2 : Xi smB smS 2=some (.inl 3):=by decide +kernel
  have l3 : Xi smB smS 3=some (.inr (.inl ())):=by decide +kernel
  have hl : Kq (Xi smB smS) 0=some (.inl ()):=(Hw l0).trans ((Hw l1).trans ((Hw l2).trans (Ue l3)));have he : smB.Epoch=smS.Epoch:=rfl;have h0 : ¬ (0 < ([] : List Int).length):=by decide
  simp only [Wx,Gz,h1,Znx,h0,he,hl,decide_true,decide_false,Bool.not_true,cond_false,Option.bind_some]
theorem laySm : Ta smP smB (bare smS) [1] [⟨3,false,smD⟩]=some (mkS smS,.nil):=by
  have h1:=Zns (p:=smP) Zvu;rw [atSmB] at h1;have he : (bare smS).Epoch=smB.Epoch:=rfl;have hm : ¬ (bare smS).Epoch=2147483647:=by decide +kernel
  have h0 : ¬ (0 < ([] : List Int).length):=by decide
  have f0 : Kx smP [1] [⟨3,false,smD⟩] (-1,0)=some (.inl (1,1)):=by decide +kernel
  have f1 : Kx smP [1] [⟨3,false,smD⟩] (1,1)=some (.inr (.inl ())):=by decide +kernel
  have hf : Zam smP (bare smS) [1] [⟨3,false,smD⟩]=some true:=by
    have : Kq (Kx smP [1] [⟨3,false,smD⟩]) (-1,0)=some (.inl ()):=(Hw f0).trans (Ue f1);have c : ((!decide (([1] : List Int).length=([⟨3,false,smD⟩] : List GPage).length)) || decide (0 < (bare smS).Pages.length))=false:=by decide +kernel
    simp only [Zam,c,this,cond_false,Option.bind_some]
  have g0 : Ks [1] [⟨3,false,smD⟩] (0,smB.Pages)=some (.inl (1,(mkS smS).Pages)):=by decide +kernel
  have g1 : Ks [1] [⟨3,false,smD⟩] (1,(mkS smS).Pages)=some (.inr (mkS smS).Pages):=by decide +kernel
  have hg : Kq (Ks [1] [⟨3,false,smD⟩]) (0,smB.Pages)=some (mkS smS).Pages:=(Hw g0).trans (Ue g1);have hr:=Zin smP (mkS smS) okSmM.sm.1;rw [Zpm,if_neg (fun c=>c Zsk),(Zkb atSmM).2] at hr;have hc : Gr smB.Pages=some smB.Pages:=by
    have c : (([] : List GPage).length + smB.Pages.length) * 80 ≤ 140737488355328:=by decide +kernel
    simp only [Gr,Jf,chk,c,if_true,List.nil_append,Option.bind_some]
  have hx : (⟨(bare smS).Id,(bare smS).Frame,IntKind.i64.wrap ((bare smS).Epoch + 1),(bare smS).Procs,(bare smS).Ready,(bare smS).Timers,(bare smS).Up,(bare smS).Sems,(bare smS).Ports,(mkS smS).Pages⟩ : GState)=mkS smS:=rfl;simp only [Ta,Zab,h1,Znx,h0,he.symm,hm,hf,Zfq okSmR,hc,hg,hx,hr,decide_true,decide_false,Bool.not_true,cond_false,Option.bind_some]
theorem Zkc : Za5=some true:=by
  have c1 : (mkS smS).Epoch=5:=by decide +kernel
  have c2 : (mkS smS).Pages.length=3:=by decide +kernel
  have c3 : (mkS smS).Pages[1]? = some (⟨3,false,smD⟩ : GPage):=by decide +kernel
  have c4 : rdV smD 0=some (Wt 2):=by decide +kernel
  have c5 : ((Wt 2).toNat : Int)=2:=by decide
  have c6 : (mkS smS).Frame=9:=by decide +kernel
  have c7 : ([1] : List Int).length=1:=rfl;have c8 : ([1] : List Int)[0]? = some 1:=rfl;have c9 : Zll smS (mkS smS)=true:=by decide +kernel
  have d1 : smS.Pages[1]? = some (⟨3,true,smD⟩ : GPage):=by decide +kernel
  have hb : (⟨(Ko smP).Id,(Ko smP).Frame,4,(Ko smP).Procs,(Ko smP).Ready,(Ko smP).Timers,(Ko smP).Up,(Ko smP).Sems,(Ko smP).Ports,(Ko smP).Pages⟩ : GState)=smB:=rfl;have hq : (⟨(mkS smS).Id,9,5,(mkS smS).Procs,(mkS smS).Ready,(mkS smS).Timers,(mkS smS).Up,(mkS smS).Sems,(mkS smS).Ports,(mkS smS).Pages⟩ : GState)=mkS smS:=rfl;have hz : (⟨smS.Id,smS.Frame,smS.Epoch,smS.Procs,smS.Ready,smS.Timers,smS.Up,smS.Sems,smS.Ports,[]⟩ : GState)=bare smS:=rfl;simp only [Za5,Zvt,Zgu Zo3,markSm,Zag,c1,c2,c3,c4,c5,c6,decide_true,Bool.not_true,cond_false,Option.bind_some];simp only [Zaf,Zgu Zo3,Zvw,c7,c8,hq,Zi0,c9,decide_true,Bool.not_true,cond_false,Option.bind_some];simp only [Zae,Zml Zsk,hb,Zvx,Zgu Zo3,d1,hz,laySm,hq,Zh8,decide_true,Bool.not_true,cond_false,cond_true,Option.bind_some]
end Go.Proofs.YtjekfpnpfllaoaaGreatDoor
