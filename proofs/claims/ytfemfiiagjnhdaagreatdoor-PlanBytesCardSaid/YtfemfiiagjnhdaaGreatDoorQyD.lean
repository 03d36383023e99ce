/- Part of a claim, shortened by a program from its texts: Arr, Deep, Nest, Fast, Mid, Cpy, Ptr, Cop, PbD. -/
import Derived.Test.YtfemfiiagjnhdaaGreatDoorQyC
set_option linter.unusedVariables false
set_option linter.unusedSimpArgs false
set_option linter.unusedSectionVars false
namespace Go.Proofs.YtfemfiiagjnhdaaGreatDoor
open Go Go.RowKit
section
variable {α : Type} {n : Nat}
def rdV (v : Vector α n) (z : Int) : Option α:=if 0 ≤ z then v[z.toNat]? else none
theorem Zjn {v : Vector α n} {z : Int} {x : α} (h : rdV v z=some x) : 0 ≤ z ∧ z < n ∧ v[z.toNat]? = some x:=by
  unfold rdV at h
  split at h
  · rename_i h0
    have:=(Vector.getElem?_eq_some_iff.1 h).1
    exact⟨h0,by omega,h⟩
  · cases h
theorem Ztw (v : Vector α n) (i : Nat) : rdV v (i : Int)=v[i]?:=by simp [rdV]
theorem Ztf {v : Vector α n} {i : Nat} {x : α} (h : v[i]? = some x) : v.toList[i]? = some x:=by
  obtain⟨hi,rfl⟩:=Vector.getElem?_eq_some_iff.1 h
  rw [List.getElem?_eq_getElem (by simpa using hi)]
  simp
theorem arr_at {A B : List Value} {v : Vector α n} {f : α → Value} {i : Nat} {x : α} (h : v[i]? = some x) : ((A ++ v.toList.map f) ++ B)[A.length + i]? = some (f x):=by
  have hi:=(Vector.getElem?_eq_some_iff.1 h).1
  rw [List.getElem?_append_left (by simp;omega),List.getElem?_append_right (by omega)]
  simp [Ztf h]
theorem Ztx {A : List Value} {v : Vector α n} {f : α → Value} {i : Nat} {x : α} (h : v[i]? = some x) : (A ++ v.toList.map f)[A.length + i]? = some (f x):=by
  have:=arr_at (A:=A) (B:=[]) (f:=f) h
  simpa using this
theorem Zty {v : Vector α n} {f : α → Value} {i : Nat} {x : α} (h : v[i]? = some x) : (v.toList.map f)[i]? = some (f x):=by simp [Ztf h]
theorem Ztz (v : Vector α n) (f : α → Value) (i : Nat) (y : α) : (v.toList.map f).set i (f y)=(v.setIfInBounds i y).toList.map f:=by
  rw [← List.map_set]
  congr 1
  simp
end
section
variable {P : Program} {L : Operand → Option Value} {C : World → Prop} {x y : Operand} {ad : Addr} {q : IntKind} {z : Int}
theorem Zpm {T e len : Nat} (ht : P.underlying T=some (.array len e)) (hk : Xx P e=some 1) (ex : L x=some (.pointer (some ad))) (ey : L y=some (.int q z)) (h0 : 0 ≤ z) (hn : z < len) : Q1 P L (.indexAddr T x y) C (.pointer (some (ad.add z.toNat))):=
  fun ρ h w' _ dst ty pos af g=>by simp [execOp,h x _ ex,h y _ ey,Instr.indexAt,Instr.sureAddr,asIntOf,run_underlying ht,h0,hn,Yu hk]
theorem Znl {T e len b o : Nat} (ht : P.underlying T=some (.array len e)) (hk : Xx P e=some 1) (ex : L x=some (.pointer (some ⟨b,o,none⟩))) (ey : L y=some (.int q z)) (h0 : 0 ≤ z) (hn : z < len) : Q1 P L (.indexAddr T x y) C (.pointer (some ⟨b,o + z.toNat,none⟩)):=by
  have:=Zpm (C:=C) ht hk ex ey h0 hn
  rwa [Zaa] at this
theorem Zof {t e k len : Nat} {ps : List (Nat × Operand)} {vs : List (Nat × Value)} {zs cs : List Value} (ht : P.underlying t=some (.array len e)) (hk : Xx P e=some k) (hz : Gc P t=some zs)
    (e : loP L ps=some vs) (hf : Instr.fill (fun i=>some (i * k,k)) zs.toArray vs=some cs.toArray) : Q1 P L (.build t ps.toArray) C (.agg cs.toArray):=
  fun ρ h w' _ dst ty pos af g=>by
    obtain⟨z,hr,hzc⟩:=Zd6 hz w'
    have hp:=Zji h ps vs e
    have hrun : (Instr.build t (ps.toArray.map fun p=>(p.1,ρ p.2))).run P w' = .ok (.agg cs.toArray) w':=by
      unfold Instr.build
      simp only [Sem.run_bind,hr,Result.andThen_ok,Sem.run_pure,run_underlying ht,Yu hk,hzc]
      simp only [List.map_toArray,hp,hf]
      simp
    simp only [execOp]
    rw [Sem.run_bind,hrun]
    rfl
end
section
variable {P : Program} {w : World} {α : Type} {e : α → List Value} {R : World → List Value → α → Prop} {k : Nat} {v : Value} {A : Option Addr} {ad : Addr} {n c i : Nat} {xs : List α} {x : α} {T : TypeId} {u : Value}
theorem SlR.ldArrV {o j : Nat} (h : SlR w k (Zq e) v xs) (hv : v=.slice A n c) (hA : A=some ad) (ht : Za5 P T=some false) (hx : xs[i]? = some x) (he : (e x)[o + j]? = some u) : LdX P T w (((ad.add (i * k)).add o).add j) u:=by
  rw [Zf4 (ad.add (i * k))]
  exact h.ldCellV hv hA ht hx he
theorem SlR.nilV (h : SlR w k R v xs) (hv : v=.slice A n c) (hA : A.isNone=true) : xs=[]:=by
  subst hv
  obtain⟨A',c',h1,h2,h3,h4,h5⟩:=h
  cases h1
  exact (h4 (by simpa using hA)).1
theorem Zpn {L : Operand → Option Value} {C : World → Prop} {x y : Operand} {t t' el : TypeId} {n' c' : Nat} (ht : P.underlying t=some (.slice el)) (ex : L x=some v) (hv : v=.slice A n c) (ey : L y=some (.slice none n' c')) : Q1 P L (.binOp .eql t x y t') C (.bool A.isNone):=Ztl ht (hv ▸ ex) ey
end
def entsOf (ks : List Int) (es : List MapEntry) : Prop:=es.map (·.key)=ks.map (Value.int .i64) ∧ ∀ e ∈ es,e.val=.bool true
def IsMap (r : Nat) (ks : List Int) (w : World) : Prop:=∃ es clock,w.heap[r]? = some (.map es clock) ∧ entsOf ks es.toList
def mapR (r : Nat) (ks : List Int) : Rs where
  P w fp:=IsMap r ks w ∧ ∀ c,fp c ↔ c=r
  lt h c hc:=by
    obtain⟨es,cl,h1,_⟩:=h.1
    rw [(h.2 c).1 hc]
    exact (Array.getElem?_eq_some_iff.1 h1).1
  loc h hw:=by
    obtain⟨⟨es,cl,h1,h2⟩,h3⟩:=h
    exact⟨⟨es,cl,(hw _ ((h3 _).2 rfl)).trans h1,h2⟩,h3⟩
section
variable {P : Program} {w : World} {mt kt et r : Nat} {ks : List Int} {k : Int} {d : IntKind}
end
section
variable {P : Program} {ops : Array Oper} {Q : Exit → Act → World → Prop} {rest : List Oper} {a : Act} {n : Nat} {l : List (Nat × Option Value)} {w : World}
  {ty : TypeId} {pos : String} {af : Array Edge} {d mt kt et r : Nat} {ks : List Int} {k : Int} {dk : IntKind}
end
section
variable {fp : Nat → Prop} {w0 w w' : World} {rs : List Rs} {r : Nat} {ks ks' : List Int}
theorem St.map (i : Nat) (h : St fp w0 w rs) (hi : rs[i]? = some (mapR r ks)) : IsMap r ks w:=by obtain⟨g,h1,_⟩:=h.get i hi;exact h1
end
end Go.Proofs.YtfemfiiagjnhdaaGreatDoor
set_option linter.unusedVariables false
set_option linter.unusedSimpArgs false
set_option linter.unusedSectionVars false
namespace Go.Proofs.YtfemfiiagjnhdaaGreatDoor
open Go Go.RowKit
theorem List.take_set_of_le_aux {β : Type} (c : β) (ys : List β) (i : Nat) (h : i < ys.length) : (ys.set i c).take (i + 1)=ys.take i ++ [c]:=by
  rw [List.take_set,List.take_add_one,List.getElem?_eq_getElem h]
  simp only [Option.toList_some]
  rw [List.set_append_right _ _ (by simp;omega)]
  simp [Nat.min_eq_left (Nat.le_of_lt h)]
section
variable {α : Type} {R : World → List Value → α → Prop} {k : Nat}
def RSl (k : Nat) (e : α → List Value) (w : World) (cs : List Value) (xs : List α) : Prop:=∃ v,cs=[v] ∧ SlR w k (Zq e) v xs
theorem RSl.mono (k : Nat) (e : α → List Value) : Zkr (RSl k e):=by
  intro w w' cs x ag h
  obtain⟨v,rfl,h⟩:=h
  exact⟨v,rfl,h.agr (Zq.mono _) ag⟩
def DIn (k : Nat) (R : World → List Value → α → Prop) : List (List Value) → List α → World → Prop
  | [],[],_=>True
  | cs :: css,x :: xs,w=>(cs.length=k ∧ (∀ u ∈ cs,u.oneCell' = true) ∧ R w cs x) ∧ DIn k R css xs w
  | _,_,_=>False
theorem DIn.len {w : World} : ∀ {css : List (List Value)} {xs : List α},DIn k R css xs w → css.length=xs.length
  | [],[],_=>rfl
  | cs :: css,x :: xs,⟨_,h⟩=>by simp [h.len]
  | [],x :: xs,h=>h.elim
  | cs :: css,[],h=>h.elim
theorem DIn.one {w : World} : ∀ {css : List (List Value)} {xs : List α},DIn k R css xs w → ∀ u ∈ css.flatten,u.oneCell' = true
  | [],[],_,u,hu=>by simp at hu
  | cs :: css,x :: xs,⟨h1,h⟩,u,hu=>by
    rw [List.flatten_cons,List.mem_append] at hu
    exact hu.elim (h1.2.1 u) (h.one u)
  | [],x :: xs,h,_,_=>h.elim
  | cs :: css,[],h,_,_=>h.elim
theorem DIn.at {w : World} : ∀ {css : List (List Value)} {xs : List α} {i : Nat} {x : α},DIn k R css xs w → xs[i]? = some x → ∃ cs,cs.length=k ∧ R w cs x ∧ ∀ j u,cs[j]? = some u → css.flatten[i * k + j]? = some u
  | [],[],i,x,_,hx=>by simp at hx
  | cs :: css,y :: xs,0,x,⟨h1,h⟩,hx=>by
    simp only [List.getElem?_cons_zero,Option.some.injEq] at hx
    subst hx
    refine⟨cs,h1.1,h1.2.2,fun j u hu=>?_⟩
    rw [List.flatten_cons,List.getElem?_append_left (by have:=(List.getElem?_eq_some_iff.1 hu).1;omega)]
    simpa using hu
  | cs :: css,y :: xs,i + 1,x,⟨h1,h⟩,hx=>by
    obtain⟨cs',g1,g2,g3⟩:=h.at (i:=i) (by simpa using hx)
    refine⟨cs',g1,g2,fun j u hu=>?_⟩
    rw [List.flatten_cons,List.getElem?_append_right (by rw [h1.1,Nat.succ_mul];omega),h1.1]
    have e : (i + 1) * k + j - k=i * k + j:=by rw [Nat.succ_mul];omega
    rw [e]
    exact g3 j u hu
  | [],x :: xs,_,_,h,_=>h.elim
  | cs :: css,[],_,_,h,_=>h.elim
theorem DIn.app {w : World} {css' : List (List Value)} {xs' : List α} (h' : DIn k R css' xs' w) : ∀ {css : List (List Value)} {xs : List α},DIn k R css xs w → DIn k R (css ++ css') (xs ++ xs') w
  | [],[],_=>h'
  | c :: css,y :: xs,⟨g,h⟩=>⟨g,DIn.app h' h⟩
  | [],x :: xs,h=>h.elim
  | cs :: css,[],h=>h.elim
theorem DIn.cons {w : World} {cs : List Value} {x : α} {css : List (List Value)} {xs : List α} (h1 : cs.length=k) (h2 : ∀ u ∈ cs,u.oneCell' = true) (h3 : R w cs x) (h : DIn k R css xs w) : DIn k R (cs :: css) (x :: xs) w:=⟨⟨h1,h2,h3⟩,h⟩
theorem DIn.mono (hR : Zkr R) {w w' : World} (e : Agr w w') : ∀ {css : List (List Value)} {xs : List α},DIn k R css xs w → DIn k R css xs w'
  | [],[],_=>trivial
  | c :: css,y :: xs,⟨g,h⟩=>⟨⟨g.1,g.2.1,hR _ _ _ _ e g.2.2⟩,h.mono hR e⟩
  | [],x :: xs,h=>h.elim
  | cs :: css,[],h=>h.elim
theorem SlR.ofCells {w : World} {b cap n : Nat} {css : List (List Value)} {xs : List α} (hc : ∀ j u,css.flatten[j]? = some u → w.cell? ⟨b,j,none⟩=some u) (hd : DIn k R css xs w) (hn : n=xs.length) (hcap : n ≤ cap) (hm : cap ≤ maxLen) : SlR w k R (.slice (some ⟨b,0,none⟩) n cap) xs:=by
  subst hn
  refine⟨some ⟨b,0,none⟩,cap,rfl,hcap,hm,(fun h=>by cases h),fun ad h i x hx=>?_⟩
  cases h
  obtain⟨cs,h1,h2,h3⟩:=hd.at hx
  exact⟨cs,h1,h2,fun j u hu=>by rw [Yy];exact hc _ u (h3 j u hu)⟩
theorem SlR.ofBlk {w : World} {b n T : Nat} (css : List (List Value)) (xs : List α) (h : Blk w b css.flatten T) (hd : DIn k R css xs w) (hn : n=xs.length) (hm : n ≤ maxLen) : SlR w k R (.slice (some ⟨b,0,none⟩) n n) xs:=
  SlR.ofCells (fun j u hu=>(h.cell j).trans hu) hd hn (Nat.le_refl _) hm
theorem Own.slD {w : World} {E n : Nat} {v : Value} {css : List (List Value)} {xs : List α} (h : Own w E k v n css.flatten) (hd : DIn k R css xs w) (hn : n=xs.length) : SlR w k R v xs:=by
  rcases id h with ⟨rfl,h0,h1⟩ | ⟨b,cap,cs,rfl,hB,h2,h3,h4,h5,h6⟩
  · cases xs with
    | nil=>exact SlR.nil w k R
    | cons x xs=>simp at hn;omega
  · exact SlR.ofCells (fun j u hu=>h.cell hu) hd hn h2 h3
theorem Zt0 {P : Program} {w : World} {T i : Nat} {ad : Addr} {v : Value} (ht : Za5 P T=some false) (hc : ∀ j u,[v][j]? = some u → w.cell? (ad.add (i * 1 + j))=some u) : LdX P T w (ad.add (i * 1)) v:=LdX.one ht (hc 0 v rfl)
theorem fillA {place : Nat → Option (Nat × Nat)} {i off : Nat} {v : Value} {zs ds : List Value} {n : Nat} {rest : List (Nat × Value)} (h : v.cells=ds.toArray) (hn : ds.length=n) (hp : place i=some (off,n)) (hl : off + n ≤ zs.length) :
    Instr.fill place zs.toArray ((i,v) :: rest)=Instr.fill place (zs.take off ++ ds ++ zs.drop (off + n)).toArray rest:=by
  subst hn
  rw [Instr.fill,hp]
  simp only [h]
  have h1 : ¬ (ds.toArray.size ≠ ds.length || decide (off + ds.toArray.size > zs.toArray.size))=true:=by simp;omega
  rw [if_neg h1]
  congr 1
  have key : ∀ (es : List Value) (j : Nat) (ys : List Value),off + j + es.length ≤ ys.length → (es.zipIdx j).foldl (fun cs (c,j)=>cs.setIfInBounds (off + j) c) ys.toArray=(ys.take (off + j) ++ es ++ ys.drop (off + j + es.length)).toArray:=by
    intro es
    induction es with
    | nil=>intro j ys _;simp
    | cons c es ih=>
      intro j ys hj
      simp only [List.zipIdx_cons,List.foldl_cons,List.setIfInBounds_toArray]
      rw [ih (j + 1) _ (by simp at hj ⊢;omega)]
      simp only [List.length_cons] at hj
      congr 1
      have e1 : off + (j + 1)=off + j + 1:=by omega
      rw [e1,List.take_set_of_le_aux c ys (off + j) (by omega)]
      rw [List.drop_set_of_lt (by omega)]
      simp only [List.append_assoc,List.cons_append,List.nil_append,List.length_cons]
      have e2 : off + j + 1 + es.length=off + j + (es.length + 1):=by omega
      rw [e2]
  have:=key ds 0 zs (by simpa using hl)
  simpa using this
def deepR (E k : Nat) (R : World → List Value → α → Prop) (v : Value) (xs : List α) : Rs:=exR fun css : List (List Value)=>starR [ownR E k v xs.length css.flatten,anyR (DIn k R css xs)]
theorem Src.blk {w : World} {b m c T : Nat} {cs : List Value} (h : Blk w b cs T) (hl : cs.length=m * k) : Src w k (.slice (some ⟨b,0,none⟩) m c) m cs:=.inr (.inl ⟨_,_,rfl,hl,fun j u hu=>by rw [Yy];exact (h.cell j).trans hu⟩)
end
section
variable {α : Type} {R : World → List Value → α → Prop} {E k n : Nat} {v : Value} {xs : List α} {x : α} {fp : Nat → Prop} {w0 w w' : World} {rs : List Rs}
theorem deepR.sl {g : Nat → Prop} (h : (deepR E k R v xs).P w g) : SlR w k R v xs:=by
  obtain⟨css,⟨f1,h1,h2,f2,h3,h4,_⟩,_⟩:=h
  exact h1.1.slD h3.now rfl
theorem St.deepSl (i : Nat) (h : St fp w0 w rs) (hi : rs[i]? = some (deepR E k R v xs)) : SlR w k R v xs:=by
  obtain⟨g,h1⟩:=h.get i hi
  exact deepR.sl h1
theorem St.deep (h : St fp w0 w (deepR E k R v xs :: rs)) : ∃ css,St fp w0 w (ownR E k v xs.length css.flatten :: anyR (DIn k R css xs) :: rs):=by
  obtain⟨css,h⟩:=h.ex
  exact⟨css,h.star⟩
theorem St.mkDeep {css : List (List Value)} (h : St fp w0 w (ownR E k v xs.length css.flatten :: anyR (DIn k R css xs) :: rs)) : St fp w0 w (deepR E k R v xs :: rs):=
  St.mkEx (f:=fun css : List (List Value)=>starR [ownR E k v xs.length css.flatten,anyR (DIn k R css xs)]) css (h.fold [_,_])
theorem St.deepNil (E k : Nat) (R : World → List Value → α → Prop) (h : St fp w0 w rs) : St fp w0 w (deepR E k R (.slice none 0 0) [] :: rs):=
  St.mkDeep (css:=[]) ((h.trivAny (F:=DIn k R [] []) fun _=>trivial).nilOwn E k)
theorem Zky {z0 : α} {zc : List Value} (hk : zc.length=k) (h1 : ∀ u ∈ zc,u.oneCell' = true) (hz : ∀ w,R w zc z0) : ∀ (n : Nat) (w : World),DIn k R (List.replicate n zc) (List.replicate n z0) w
  | 0,_=>trivial
  | n + 1,w=>⟨⟨hk,h1,hz w⟩,Zky hk h1 hz n w⟩
end
section
variable {P : Program} {ops : Array Oper} {Q : Exit → Act → World → Prop} {rest : List Oper} {a : Act} {n : Nat} {l : List (Nat × Option Value)} {w : World}
  {ty : TypeId} {pos : String} {af : Array Edge} {d : Nat} {v u : Value}
variable {α : Type} {R : World → List Value → α → Prop} {E k m bytes : Nat} {z : List Value} {xs ys : List α} {css : List (List Value)} {fp : Nat → Prop} {w0 : World} {rs : List Rs}
end
end Go.Proofs.YtfemfiiagjnhdaaGreatDoor
set_option linter.unusedVariables false
set_option linter.unusedSimpArgs false
set_option linter.unusedSectionVars false
namespace Go.Proofs.YtfemfiiagjnhdaaGreatDoor
open Go Go.RowKit
section
variable {fp : Nat → Prop} {w0 w w' : World} {rs rows : List Rs} {r : Rs} {i : Nat}
end
section
variable {β : Type}
end
section
variable {α : Type} {El : List Value → α → Rs} {R : World → List Value → α → Prop} {k : Nat}
variable {fp : Nat → Prop} {w0 w w' : World} {rs : List Rs} {T i : Nat} {v : Value} {xs : List α} {x x' : α} {css : List (List Value)} {cs cs' : List Value}
end
section
variable {α : Type} {e : α → List Value} {E k T : Nat} {fp : Nat → Prop} {w0 w w' : World} {rs : List Rs} {v u u' : Value} {xss : List (List α)} {xs ys : List α} {css : List (List Value)} {i : Nat}
end
section
variable {P : Program} {ops : Array Oper} {Q : Exit → Act → World → Prop} {rest : List Oper} {a : Act} {n : Nat} {l : List (Nat × Option Value)} {w : World}
  {ty : TypeId} {pos : String} {af : Array Edge} {d : Nat} {v u : Value}
variable {E k c i : Nat} {A : Option Addr} {ad : Addr} {xs : List Value} {x y : Operand} {t m n0 : Nat}
end
section
variable {P : Program} {ops : Array Oper} {Q : Exit → Act → World → Prop} {a : Act} {n : Nat} {l : List (Nat × Option Value)} {w : World} {k0 fuel h0 : Nat} {listed : Array Bool} {B : List Nat}
  {ty : TypeId} {pos : String} {af : Array Edge} {d : Nat} {v u : Value}
variable {E k c i : Nat} {A : Option Addr} {ad : Addr} {xs : List Value} {x y : Operand} {t m n0 : Nat}
theorem Zim {α : Type} {e : α → List Value} {xs ys : List α} (j : Nat) {t' bytes : Nat} {z : List Value} {d' : TypeDesc} (H : Has a n l) (hi : ops[j]? = some ⟨some d,.call { callee:=.builtin .append,args:=#[x,y],argTypes:=#[t,t'] },ty,pos,af,none⟩) (ex : lo l x=some v) (ey : lo l y=some u)
    (ht : P.underlying t=some (.slice E)) (ht' : P.underlying t' = some d') (hd' : ∀ q,d' ≠ .int q) (hE : ElemOk P E k bytes z) (hv : Own w E k v xs.length (xs.flatMap e)) (hx : Src w k u ys.length (ys.flatMap e)) (h1 : ∀ z,∀ c ∈ e z,c.oneCell' = true)
    (hb : (xs.length + ys.length) * bytes ≤ 140737488355328) (h63 : xs.length + ys.length ≤ maxLen) (hd : Nat.blt d n=true) (hr : Region.ready .any ops listed=[j]) (hB : (∀ b ∈ Wa v,b < h0 → b ∈ B) ∨ act k0 (listed.setIfInBounds j true)=false)
    (h : ∀ v' w',Own w' E k v' (xs ++ ys).length ((xs ++ ys).flatMap e) → Chg (Wa v) w w' → (Wa v' = Wa v ∨ ∃ b,Wa v' = [b] ∧ w.heap.size ≤ b) → ∀ a',Has a' n ((d,some v') :: l) → wpK P ops Q k0 (ChgF B h0 w') fuel (listed.setIfInBounds j true) a' w') :
    wpK P ops Q k0 (ChgF B h0 w) (fuel + 1) listed a w:=
  Znc j H hi ex ey ht ht' hd' hE hv hx (Zne h1 ys) hb h63 hd hr hB fun v' w' hO hC hb _ a' H'=>h v' w' (by rw [List.length_append,List.flatMap_append];exact hO) hC hb a' H'
end
def kB (m : Nat) (ps : List Nat) (h0 : Nat) : List Nat:=(List.range h0).filter fun k=>decide (m ≤ k ∧ k ∉ ps)
theorem Zi3 {m h0 b : Nat} {ps : List Nat} (h1 : b < h0) (h2 : m ≤ b) (h3 : b ∉ ps) : b ∈ kB m ps h0:=by
  simp [kB,h1,h2,h3]
theorem Zi4 {m h0 : Nat} {ps : List Nat} : ∀ b ∈ kB m ps h0,m ≤ b:=by
  intro b hb
  simp [kB] at hb
  exact hb.2.1
theorem Zcp {b : Nat} : b ∉ ([] : List Nat):=by simp
theorem Zcq {b c : Nat} {ps : List Nat} (h : b ≠ c) (h2 : b ∉ ps) : b ∉ c :: ps:=by simp [h,h2]
section
variable {fp : Nat → Prop} {w0 w : World} {rs : List Rs} {i j b E k n E2 k2 n2 T : Nat} {v v2 : Value} {xs xs2 cs : List Value}
end
section
variable {P : Program} {t : TypeId} {w : World} {ad : Addr} {v : Value} {B : List Nat} {h0 o n c b : Nat} {A : Option Addr} {u : Value} {cs : List Value} {T : TypeId}
end
section
variable {P : Program} {ops : Array Oper} {Q : Exit → Act → World → Prop} {rest : List Oper} {a : Act} {n : Nat} {l : List (Nat × Option Value)} {w : World}
  {ty : TypeId} {pos : String} {af : Array Edge} {d : Nat} {v u r : Value}
variable {α : Type} {e : α → List Value} {E E2 k2 bytes : Nat} {z : List Value} {xss : List (List α)} {ys : List α} {fp : Nat → Prop} {w0 : World} {rs : List Rs}
end
section
variable {P : Program} {ops : Array Oper} {Q : Exit → Act → World → Prop} {a : Act} {n : Nat} {l : List (Nat × Option Value)} {w : World} {k0 fuel h0 : Nat} {listed : Array Bool} {B : List Nat}
  {ty : TypeId} {pos : String} {af : Array Edge} {d : Nat} {v u : Value}
variable {α : Type} {R : World → List Value → α → Prop} {E k m bytes : Nat} {z : List Value} {xs ys : List α} {css : List (List Value)} {fp : Nat → Prop} {w0 : World} {rs : List Rs}
theorem k_appD {x y : Operand} {t t' : Nat} {d' : TypeDesc} (j : Nat) (hS : St fp w0 w (deepR E k R v xs :: anyR (DIn k R css ys) :: rs)) (H : Has a n l) (hi : ops[j]? = some ⟨some d,.call { callee:=.builtin .append,args:=#[x,y],argTypes:=#[t,t'] },ty,pos,af,none⟩) (ex : lo l x=some v) (ey : lo l y=some u)
    (ht : P.underlying t=some (.slice E)) (ht' : P.underlying t' = some d') (hd' : ∀ q,d' ≠ .int q) (hE : ElemOk P E k bytes z) (hx : Src w k u ys.length css.flatten)
    (hb : (xs.length + ys.length) * bytes ≤ 140737488355328) (h63 : xs.length + ys.length ≤ maxLen) (hd : Nat.blt d n=true) (hr : Region.ready .any ops listed=[j])
    (hB : ∀ css0,St fp w0 w (ownR E k v xs.length css0 :: anyR (DIn k R css ys) :: rs) → (∀ b ∈ Wa v,b < h0 → b ∈ B) ∨ act k0 (listed.setIfInBounds j true)=false)
    (h : ∀ v' w',St fp w0 w' (deepR E k R v' (xs ++ ys) :: rs) → w.heap.size ≤ w'.heap.size → ∀ a',Has a' n ((d,some v') :: l) → wpK P ops Q k0 (ChgF B h0 w') fuel (listed.setIfInBounds j true) a' w') :
    wpK P ops Q k0 (ChgF B h0 w) (fuel + 1) listed a w:=by
  obtain⟨css0,hS1⟩:=hS.deep
  have hd2 : DIn k R css ys w:=hS1.any 2 rfl
  refine Znc j H hi ex ey ht ht' hd' hE (hS1.own 0 rfl) hx hd2.one hb h63 hd hr (hB _ ((hS1.pick 1 rfl).tail)) fun v' w' hO hC hbl _ a' H'=>?_
  have hS2:=hS1.setOwn hO hC hbl
  have hS3:=(St.pick 1 hS2 rfl)
  dsimp only [List.eraseIdx] at hS3
  have hS4:=(St.pick 2 hS3 rfl)
  dsimp only [List.eraseIdx] at hS4
  have hS5:=hS4.anyAnd.anyMono (G:=DIn k R (css0 ++ css) (xs ++ ys)) fun w'' hw=>DIn.app hw.1 hw.2
  have hS6:=(St.pick 1 hS5 rfl)
  dsimp only [List.eraseIdx] at hS6
  refine h v' w' (St.mkDeep (css:=css0 ++ css) ?_) hC.size a' H'
  rw [List.length_append,List.flatten_append]
  exact hS6
theorem k_four (i j m o : Nat) (hr : Region.ready .any ops listed=[i,j,m,o]) (h1 : Zks P ops Q k0 (ChgF B h0 w) fuel listed i a w) (h2 : Zks P ops Q k0 (ChgF B h0 w) fuel listed j a w) (h3 : Zks P ops Q k0 (ChgF B h0 w) fuel listed m a w) (h4 : Zks P ops Q k0 (ChgF B h0 w) fuel listed o a w) : wpK P ops Q k0 (ChgF B h0 w) (fuel + 1) listed a w:=by
  refine⟨fun h=>(by rw [hr] at h;cases h),fun q hq=>?_⟩
  rw [hr] at hq
  simp only [List.mem_cons,List.not_mem_nil,or_false] at hq
  rcases hq with rfl|rfl|rfl|rfl
  · exact h1
  · exact h2
  · exact h3
  · exact h4
theorem Xu (i : Nat) (hr : Region.ready .any ops listed=[i]) (h : Zks P ops Q k0 (ChgF B h0 w) fuel listed i a w) : wpK P ops Q k0 (ChgF B h0 w) (fuel + 1) listed a w:=by
  refine⟨fun h=>(by rw [hr] at h;cases h),fun q hq=>?_⟩
  rw [hr] at hq
  have:=List.mem_singleton.1 hq
  subst this
  exact h
theorem Wc {β : Type} {e : β → List Value} {z0 : β} (i : Nat) {x y : Operand} {T : Nat} {q1 q2 : IntKind} {L C : Nat} (H : Has a n l) (hi : ops[i]? = some ⟨some d,.makeSlice T x y,ty,pos,af,none⟩) (ht : P.underlying T=some (.slice E)) (hE : ElemOk P E k bytes z) (hz : e z0=z) (ex : lo l x=some (.int q1 L)) (ey : lo l y=some (.int q2 C)) (hLC : L ≤ C)
    (hb : C * bytes ≤ 140737488355328) (hm : C ≤ maxLen) (hd : Nat.blt d n=true)
    (h : ∀ b w',Own w' E k (.slice (some ⟨b,0,none⟩) L C) (List.replicate L z0).length ((List.replicate L z0).flatMap e) → Ext w w' → w.heap.size=b → ∀ a',Has a' n ((d,some (.slice (some ⟨b,0,none⟩) L C)) :: l) → wpK P ops Q k0 (ChgF B h0 w') fuel (listed.setIfInBounds i true) a' w') :
    Zks P ops Q k0 (ChgF B h0 w) fuel listed i a w:=
  Gl i H hi ht hE ex ey hLC hb hm hd fun b w' hO he hs a' H'=>h b w' (by rw [List.length_replicate,List.flatMap,List.map_replicate,hz];exact hO) he hs a' H'
end
section
variable {α : Type} {R : World → List Value → α → Prop} {fp : Nat → Prop} {w0 w : World} {rs : List Rs} {E k n : Nat} {v : Value}
theorem St.mkDeep0 {zc : List Value} {z0 : α} (hk : zc.length=k) (h1 : ∀ u ∈ zc,u.oneCell' = true) (hz : ∀ w,R w zc z0) (h : St fp w0 w (ownR E k v n (List.replicate n zc).flatten :: rs)) : St fp w0 w (deepR E k R v (List.replicate n z0) :: rs):=by
  refine St.mkDeep (css:=List.replicate n zc) ?_
  rw [List.length_replicate]
  exact (h.trivAny (F:=DIn k R (List.replicate n zc) (List.replicate n z0)) (Zky hk h1 hz n)).pick 1 rfl
end
end Go.Proofs.YtfemfiiagjnhdaaGreatDoor
set_option linter.unusedVariables false
set_option linter.unusedSimpArgs false
set_option linter.unusedSectionVars false
namespace Go.Proofs.YtfemfiiagjnhdaaGreatDoor
open Go Go.RowKit
section
variable {P : Program} {ops : Array Oper} {Q : Exit → Act → World → Prop} {rest : List Oper} {n : Nat} {l : List (Nat × Option Value)} {lc : List (Nat × (Nat × Bool) × Value)} {w : World}
  {op : Op} {ty : TypeId} {pos : String} {af : Array Edge} {d : Nat} {v : Value}
theorem W_q (q : Q1 P (lo l) op (Ext w) v) (hd : Nat.blt d n=true) (h : ∀ a',Has a' n ((d,some v) :: l) → wpList P ops Q rest a' w) : ∀ a,Has a n l → wpList P ops Q (⟨some d,op,ty,pos,af,none⟩ :: rest) a w:=
  fun a H=>n_q H q hd h
theorem Qn {j t : Nat} {want b : Bool} (hj : (ops[j]?).bind (·.dst)=some t) (ht : lk l t=some (.bool b)) (hb : b ≠ want) (hd : Nat.blt d n=true) (h : ∀ a',Has a' n ((d,some undef) :: l) → wpList P ops Q rest a' w) :
    ∀ a,Has a n l → wpList P ops Q (⟨some d,op,ty,pos,af,some (j,want)⟩ :: rest) a w:=fun a H=>Zci H hj ht hb hd h
theorem Xe {dst : Option Nat} {j t : Nat} {want : Bool} (hj : (ops[j]?).bind (·.dst)=some t) (ht : lk l t=some (.bool want)) (h : ∀ a,Has a n l → wpList P ops Q (⟨dst,op,ty,pos,af,none⟩ :: rest) a w) :
    ∀ a,Has a n l → wpList P ops Q (⟨dst,op,ty,pos,af,some (j,want)⟩ :: rest) a w:=fun a H=>Wb H hj ht (h a H)
theorem V_q (q : Q1 P (lo l) op (Ext w) v) (hd : Nat.blt d n=true) (hk : okc ops d lc=true) (h : ∀ a',HasC ops a' n ((d,some v) :: l) lc → wpList P ops Q rest a' w) :
    ∀ a,HasC ops a n l lc → wpList P ops Q (⟨some d,op,ty,pos,af,none⟩ :: rest) a w:=fun a H=>Tn H q hd hk h
theorem V_g {g : Nat × Bool} (q : Q1 P (loc l lc g) op (Ext w) v) (hd : Nat.blt d n=true) (hk : okc ops d lc=true)
    (hg : (match (ops[g.1]?).bind (·.dst) with | some t=>!(Nat.beq t d) | none=>true)=true) (h : ∀ a',HasC ops a' n ((d,none) :: l) ((d,g,v) :: lc) → wpList P ops Q rest a' w) :
    ∀ a,HasC ops a n l lc → wpList P ops Q (⟨some d,op,ty,pos,af,some g⟩ :: rest) a w:=fun a H=>Zfe H q hd hk hg h
theorem Zmg {j t r : Nat} {b u : Bool} (hj : (ops[j]?).bind (·.dst)=some t) (ht : lk l t=some (.bool b)) (hr : loc l lc (j,true) (.tmp r)=some (.bool u)) (hd : Nat.blt d n=true) (hk : okc ops d lc=true)
    (h : ∀ a',HasC ops a' n ((d,some (.bool (b && u))) :: l) lc → wpList P ops Q rest a' w) :
    ∀ a,HasC ops a n l lc → wpList P ops Q (⟨some d,.pick (.tmp t) (.tmp r) (.const (.bool false)),ty,pos,af,none⟩ :: rest) a w:=fun a H=>Zo2 H hj ht hr hd hk h
theorem Zet {j t r : Nat} {b u : Bool} (hj : (ops[j]?).bind (·.dst)=some t) (ht : lk l t=some (.bool b)) (hr : loc l lc (j,false) (.tmp r)=some (.bool u)) (hd : Nat.blt d n=true) (hk : okc ops d lc=true)
    (h : ∀ a',HasC ops a' n ((d,some (.bool (b || u))) :: l) lc → wpList P ops Q rest a' w) :
    ∀ a,HasC ops a n l lc → wpList P ops Q (⟨some d,.pick (.tmp t) (.const (.bool true)) (.tmp r),ty,pos,af,none⟩ :: rest) a w:=fun a H=>Zn6 H hj ht hr hd hk h
end
end Go.Proofs.YtfemfiiagjnhdaaGreatDoor
set_option linter.unusedVariables false
set_option linter.unusedSimpArgs false
set_option linter.unusedSectionVars false
namespace Go.Proofs.YtfemfiiagjnhdaaGreatDoor
open Go Go.RowKit
section
variable {P : Program} {ops : Array Oper} {Q : Exit → Act → World → Prop} {a : Act} {n : Nat} {l : List (Nat × Option Value)} {w : World} {B : List Nat} {k0 h0 fuel : Nat} {listed : Array Bool}
end
section
variable {fp : Nat → Prop} {w0 w : World} {rs : List Rs} {r0 r1 r2 r3 r4 r5 r6 r7 r8 r9 r10 r11 : Rs}
theorem St.tk0 (h : St fp w0 w (rs)) : St fp w0 w []:=h.take 0
theorem St.tk1 (h : St fp w0 w (r0 :: rs)) : St fp w0 w [r0]:=h.take 1
theorem St.tk2 (h : St fp w0 w (r0 :: r1 :: rs)) : St fp w0 w [r0,r1]:=h.take 2
theorem St.tk3 (h : St fp w0 w (r0 :: r1 :: r2 :: rs)) : St fp w0 w [r0,r1,r2]:=h.take 3
theorem St.tk4 (h : St fp w0 w (r0 :: r1 :: r2 :: r3 :: rs)) : St fp w0 w [r0,r1,r2,r3]:=h.take 4
theorem St.tk5 (h : St fp w0 w (r0 :: r1 :: r2 :: r3 :: r4 :: rs)) : St fp w0 w [r0,r1,r2,r3,r4]:=h.take 5
theorem St.tk6 (h : St fp w0 w (r0 :: r1 :: r2 :: r3 :: r4 :: r5 :: rs)) : St fp w0 w [r0,r1,r2,r3,r4,r5]:=h.take 6
theorem St.tk7 (h : St fp w0 w (r0 :: r1 :: r2 :: r3 :: r4 :: r5 :: r6 :: rs)) : St fp w0 w [r0,r1,r2,r3,r4,r5,r6]:=h.take 7
theorem St.tk8 (h : St fp w0 w (r0 :: r1 :: r2 :: r3 :: r4 :: r5 :: r6 :: r7 :: rs)) : St fp w0 w [r0,r1,r2,r3,r4,r5,r6,r7]:=h.take 8
theorem St.tk9 (h : St fp w0 w (r0 :: r1 :: r2 :: r3 :: r4 :: r5 :: r6 :: r7 :: r8 :: rs)) : St fp w0 w [r0,r1,r2,r3,r4,r5,r6,r7,r8]:=h.take 9
theorem St.pk1 (h : St fp w0 w (r0 :: r1 :: rs)) : St fp w0 w (r1 :: r0 :: rs):=h.pick 1 rfl
theorem St.pk2 (h : St fp w0 w (r0 :: r1 :: r2 :: rs)) : St fp w0 w (r2 :: r0 :: r1 :: rs):=h.pick 2 rfl
theorem St.pk3 (h : St fp w0 w (r0 :: r1 :: r2 :: r3 :: rs)) : St fp w0 w (r3 :: r0 :: r1 :: r2 :: rs):=h.pick 3 rfl
theorem St.pk4 (h : St fp w0 w (r0 :: r1 :: r2 :: r3 :: r4 :: rs)) : St fp w0 w (r4 :: r0 :: r1 :: r2 :: r3 :: rs):=h.pick 4 rfl
theorem St.pk5 (h : St fp w0 w (r0 :: r1 :: r2 :: r3 :: r4 :: r5 :: rs)) : St fp w0 w (r5 :: r0 :: r1 :: r2 :: r3 :: r4 :: rs):=h.pick 5 rfl
theorem St.pk6 (h : St fp w0 w (r0 :: r1 :: r2 :: r3 :: r4 :: r5 :: r6 :: rs)) : St fp w0 w (r6 :: r0 :: r1 :: r2 :: r3 :: r4 :: r5 :: rs):=h.pick 6 rfl
theorem St.pk7 (h : St fp w0 w (r0 :: r1 :: r2 :: r3 :: r4 :: r5 :: r6 :: r7 :: rs)) : St fp w0 w (r7 :: r0 :: r1 :: r2 :: r3 :: r4 :: r5 :: r6 :: rs):=h.pick 7 rfl
theorem St.pk8 (h : St fp w0 w (r0 :: r1 :: r2 :: r3 :: r4 :: r5 :: r6 :: r7 :: r8 :: rs)) : St fp w0 w (r8 :: r0 :: r1 :: r2 :: r3 :: r4 :: r5 :: r6 :: r7 :: rs):=h.pick 8 rfl
theorem St.pk9 (h : St fp w0 w (r0 :: r1 :: r2 :: r3 :: r4 :: r5 :: r6 :: r7 :: r8 :: r9 :: rs)) : St fp w0 w (r9 :: r0 :: r1 :: r2 :: r3 :: r4 :: r5 :: r6 :: r7 :: r8 :: rs):=h.pick 9 rfl
theorem St.pk10 (h : St fp w0 w (r0 :: r1 :: r2 :: r3 :: r4 :: r5 :: r6 :: r7 :: r8 :: r9 :: r10 :: rs)) : St fp w0 w (r10 :: r0 :: r1 :: r2 :: r3 :: r4 :: r5 :: r6 :: r7 :: r8 :: r9 :: rs):=h.pick 10 rfl
end
end Go.Proofs.YtfemfiiagjnhdaaGreatDoor
set_option linter.unusedVariables false
set_option linter.unusedSimpArgs false
set_option linter.unusedSectionVars false
namespace Go.Proofs.YtfemfiiagjnhdaaGreatDoor
open Go Go.RowKit
section
variable {P : Program} {L : Operand → Option Value} {C : World → Prop} {x : Operand}
theorem Zog {T e k len b o : Nat} (ht : P.underlying T=some (.array len e)) (hk : Xx P e=some k) (ex : L x=some (.pointer (some ⟨b,o,none⟩))) (hl : len ≠ 0) :
    Q1 P L (.slice T x none none none) C (.slice (some ⟨b,o,none⟩) len len):=
  fun ρ h w' _ dst ty pos af g=>by
    simp only [execOp,h x _ ex,Option.map_none]
    simp [Instr.sliceAt,Instr.sureAddr,run_underlying ht,Instr.sliceBounds,Yu hk,hl,Addr.add]
end
def cpyL (v : List UInt8) (s : ByteArray) : List UInt8:=s.data.toList.take v.length ++ v.drop s.size
theorem Zrt (v : List UInt8) (s : ByteArray) : (cpyL v s).length=v.length:=by
  have : s.data.toList.length=s.size:=by simp [ByteArray.size_data]
  simp only [cpyL,List.length_append,List.length_take,List.length_drop,this];omega
def Zrd {n : Nat} (v : Vector UInt8 n) (s : ByteArray) : Vector UInt8 n:=⟨(cpyL v.toList s).toArray,by simp [Zrt]⟩
theorem Zpo {n : Nat} (v : Vector UInt8 n) (s : ByteArray) : (Zrd v s).toList=cpyL v.toList s:=by simp [Zrd]
section
variable {P : Program} {ops : Array Oper} {Q : Exit → Act → World → Prop} {a : Act} {n : Nat} {l : List (Nat × Option Value)} {w : World} {B : List Nat} {k0 h0 fuel : Nat} {listed : Array Bool} {ty : TypeId} {pos : String} {af : Array Edge} {d : Nat}
theorem Zmh {t t' e b o m T : Nat} {s : ByteArray} {cs : List Value} (ht : P.underlying t=some (.slice e)) (he : Xx P e=some 1) (hb : Blk w b cs T) (hl : o + m ≤ cs.length) :
    ∃ w',(Builtin.copy_ #[t,t'] ty #[.slice (some ⟨b,o,none⟩) m m,.string s]).run P w=.ok (goInt (Nat.min s.size m)) w' ∧
      Blk w' b (cs.take o ++ (s.data.toList.take m).map (fun c : UInt8=>Value.int .u8 (c.toNat : Int)) ++ cs.drop (o + Nat.min s.size m)) T ∧ Chg [b] w w' ∧ w'.heap.size=w.heap.size:=by
  have hs : s.data.toList.length=s.size:=by simp [ByteArray.size_data]
  have hex : (s.data.toList.map fun c : UInt8=>Value.int .u8 (c.toNat : Int)).take (Nat.min s.size m)=(s.data.toList.take m).map fun c : UInt8=>Value.int .u8 (c.toNat : Int):=by
    rw [List.map_take]
    by_cases h : s.size ≤ m
    · rw [show Nat.min s.size m=s.size from Nat.min_eq_left h,List.take_of_length_le (by simp [hs]),List.take_of_length_le (by simp [hs];exact h)]
    · rw [show Nat.min s.size m=m from Nat.min_eq_right (by omega)]
  have hvl : ((s.data.toList.take m).map fun c : UInt8=>Value.int .u8 (c.toNat : Int)).length=Nat.min s.size m:=by
    rw [List.length_map,List.length_take,hs];show min m s.size=min s.size m;omega
  obtain⟨w',hr,hb',hch,hsz⟩:=Hq P w b T ((s.data.toList.take m).map fun c : UInt8=>Value.int .u8 (c.toNat : Int)) 0 o cs hb (by rw [hvl];have : Nat.min s.size m ≤ m:=Nat.min_le_right _ _;omega) (by
    intro u hu
    obtain⟨c,_,rfl⟩:=List.mem_map.1 hu
    rfl)
  refine⟨w',?_,by rw [hvl] at hb';simpa using hb',hch,hsz⟩
  simp [Builtin.copy_,run_underlying ht,Yu he,Builtin.firstCells,Builtin.lenOf]
  rw [hex,hr];rfl
theorem Zpp (i : Nat) {x y : Operand} {t t' e b o m T : Nat} {s : ByteArray} {cs : List Value} (H : Has a n l) (hi : ops[i]? = some ⟨some d,.call { callee:=.builtin .copy,args:=#[x,y],argTypes:=#[t,t'] },ty,pos,af,none⟩)
    (ht : P.underlying t=some (.slice e)) (he : Xx P e=some 1) (ex : lo l x=some (.slice (some ⟨b,o,none⟩) m m)) (ey : lo l y=some (.string s)) (hb : Blk w b cs T) (hl : o + m ≤ cs.length) (hd : Nat.blt d n=true)
    (hr : Region.ready .any ops listed=[i]) (hB : (b < h0 → b ∈ B) ∨ act k0 (listed.setIfInBounds i true)=false)
    (h : ∀ w',Blk w' b (cs.take o ++ (s.data.toList.take m).map (fun c : UInt8=>Value.int .u8 (c.toNat : Int)) ++ cs.drop (o + Nat.min s.size m)) T → Chg [b] w w' → w'.heap.size=w.heap.size → ∀ a',Has a' n ((d,some (.int .i64 (Nat.min s.size m : Nat))) :: l) → wpK P ops Q k0 (ChgF B h0 w') fuel (listed.setIfInBounds i true) a' w') :
    wpK P ops Q k0 (ChgF B h0 w) (fuel + 1) listed a w:=by
  obtain⟨w',hrr,hb',hch,hsz⟩:=Zmh (ty:=ty) (t':=t') (m:=m) (s:=s) ht he hb hl
  refine Zo9 i (w':=w') H hi (fun ρ hρ=>by simp [execOp,resolve,invoke,builtin,hρ x _ ex,hρ y _ ey,hrr,goInt]) hd hr ?_ (h w' hb' hch hsz)
  rcases hB with hB|hB
  · exact .inl (ChgF.of hch fun k hk h=>by rw [List.mem_singleton.1 hk] at h ⊢;exact hB h)
  · exact .inr hB
theorem Zpq {A : List Value} {len : Nat} {v : Vector UInt8 len} {s : ByteArray} :
    (A ++ v.toList.map (fun c : UInt8=>Value.int .u8 (c.toNat : Int))).take A.length ++ (s.data.toList.take len).map (fun c : UInt8=>Value.int .u8 (c.toNat : Int)) ++ (A ++ v.toList.map (fun c : UInt8=>Value.int .u8 (c.toNat : Int))).drop (A.length + Nat.min s.size len)
      = A ++ (Zrd v s).toList.map (fun c : UInt8=>Value.int .u8 (c.toNat : Int)):=by
  have hv : v.toList.length=len:=by simp
  rw [Zpo,cpyL,hv,List.take_append_of_le_length (Nat.le_refl _),List.take_length,List.drop_append,List.map_append,List.append_assoc]
  congr 2
  rw [List.drop_of_length_le (by omega),List.nil_append,show A.length + Nat.min s.size len - A.length=Nat.min s.size len by omega,← List.map_drop]
  congr 1
  by_cases h : s.size ≤ len
  · rw [show Nat.min s.size len=s.size from Nat.min_eq_left h]
  · rw [show Nat.min s.size len=len from Nat.min_eq_right (by omega),List.drop_of_length_le (by omega),List.drop_of_length_le (by omega)]
end
theorem Znm {k : Nat} {v : Value} {zs ds : List Value} (h : v.cells=ds.toArray) (hd : ds.length=k) (hz : zs.length=k) : Instr.fill (fun i=>some (i * k,k)) ((List.replicate 1 zs).flatten).toArray [(0,v)]=some ds.toArray:=by
  have e : (List.replicate 1 zs).flatten=zs:=by simp
  rw [e,fillA (ds:=ds) (n:=k) (off:=0) h hd (by simp) (by omega),List.take_zero,List.nil_append,Nat.zero_add,List.drop_of_length_le (by omega),List.append_nil]
  rfl
end Go.Proofs.YtfemfiiagjnhdaaGreatDoor
set_option linter.unusedVariables false
set_option linter.unusedSimpArgs false
set_option linter.unusedSectionVars false
namespace Go.Proofs.YtfemfiiagjnhdaaGreatDoor
open Go Go.RowKit
theorem Zru {α : Type} {n : Nat} (v : Vector α n) (f : α → Value) (i : Nat) (y : α) : (v.toList.map f).set (0 + i) (f y)=(v.setIfInBounds i y).toList.map f:=by rw [Nat.zero_add];exact Ztz v f i y
theorem Zrv {α : Type} {n : Nat} {v : Vector α n} {f : α → Value} {i : Nat} {x : α} (h : v[i]? = some x) : (v.toList.map f)[0 + i]? = some (f x):=by rw [Nat.zero_add];exact Zty h
theorem SlR.takeV {α : Type} {w : World} {k : Nat} {R : World → List Value → α → Prop} {v : Value} {xs : List α} {A : Option Addr} {n c : Nat} {z : Int} (h : SlR w k R v xs) (hv : v=.slice A n c) (h0 : 0 ≤ z) (h1 : z ≤ ((xs.length : Nat) : Int)) : SlR w k R (.slice A z.toNat c) (xs.take z.toNat):=by
  obtain⟨A',c',g1,g2,g3,g4,g5⟩:=h
  have e:=g1.symm.trans hv
  cases e
  refine⟨A,c,by rw [List.length_take,Nat.min_eq_left (by omega)],by rw [List.length_take];omega,g3,fun hA=>?_,fun ad ha i x hx=>?_⟩
  · obtain⟨e1,e2⟩:=g4 hA
    exact⟨by rw [e1];simp,e2⟩
  · rw [List.getElem?_take] at hx
    split at hx
    · exact g5 ad ha i x hx
    · cases hx
section
variable {P : Program} {ops : Array Oper} {Q : Exit → Act → World → Prop} {rest : List Oper} {a : Act} {n : Nat} {l : List (Nat × Option Value)} {w : World} {B : List Nat} {k0 h0 : Nat}
  {op : Op} {ty : TypeId} {pos : String} {af : Array Edge} {d fuel : Nat} {listed : Array Bool} {α : Type} {e : α → List Value} {E k i j o c n0 : Nat} {v u : Value} {xs : List α} {x0 x' : α} {ad : Addr} {A : Option Addr} {t : TypeId} {x y : Operand}
end
section
variable {P : Program} {ops : Array Oper} {Q : Exit → Act → World → Prop} {k0 : Nat} {S : World → Prop}
def aftM : List (Edge) → Nat
  | []=>0
  | e :: r=>if Region.binds .any e=true then aftM r ||| 2 ^ e.on else aftM r
def opM (ops : Array Oper) (j : Nat) : Nat:=match ops[j]? with
  | none=>0
  | some o=>aftM o.after.toList
def Zrw (ops : Array Oper) (M : Nat) : List Nat → Nat → Nat
  | [],z=>z
  | j :: r,z=>Zrw ops M r (if M.testBit j=true then z ||| opM ops j else z)
def Zhp (ops : Array Oper) (k0 : Nat) : Nat → Nat
  | 0=>2 ^ k0
  | f + 1=>Zrw ops (Zhp ops k0 f) (List.range ops.size) (Zhp ops k0 f)
def Znn (ops : Array Oper) (listed : Array Bool) : Prop:=∀ j o,ops[j]? = some o → listed.getD j false=true → ∀ e ∈ o.after,Region.binds .any e=true → listed.getD e.on false=true
def Zpr (ops : Array Oper) (listed : Array Bool) : Bool:=(List.range ops.size).all fun j=>!(listed.getD j false) || (match ops[j]? with
  | none=>true
  | some o=>o.after.toList.all fun e=>!(Region.binds .any e) || listed.getD e.on false)
theorem Zkz {listed : Array Bool} (h : Zpr ops listed=true) : Znn ops listed:=by
  intro j o ho hl e he hb
  have hj : j < ops.size:=(Array.getElem?_eq_some_iff.1 ho).1
  have:=List.all_eq_true.1 h j (List.mem_range.2 hj)
  rw [hl,ho] at this
  simp only [Bool.not_true,Bool.false_or] at this
  have:=List.all_eq_true.1 this e (by simpa using he)
  rw [hb] at this
  simpa using this
theorem Zjo : ∀ {l : List Edge} {i : Nat},(aftM l).testBit i=true → ∃ e ∈ l,Region.binds .any e=true ∧ e.on=i
  | [],i,h=>by simp [aftM] at h
  | e :: r,i,h=>by
    unfold aftM at h
    split at h
    · rename_i hb
      rw [Nat.testBit_or,Bool.or_eq_true] at h
      rcases h with h|h
      · obtain⟨e',h1,h2⟩:=Zjo h
        exact⟨e',List.mem_cons_of_mem _ h1,h2⟩
      · refine⟨e,List.mem_cons_self ..,hb,?_⟩
        rw [Nat.testBit_two_pow] at h
        exact of_decide_eq_true h
    · obtain⟨e',h1,h2⟩:=Zjo h
      exact⟨e',List.mem_cons_of_mem _ h1,h2⟩
theorem Zk0 {G : Nat → Prop} {M : Nat} (h : ∀ j,M.testBit j=true → ∀ i,(opM ops j).testBit i=true → G i) : ∀ (l : List Nat) (z : Nat),(∀ i,z.testBit i=true → G i) → ∀ i,(Zrw ops M l z).testBit i=true → G i
  | [],z,hz=>hz
  | j :: r,z,hz=>by
    rw [Zrw]
    refine Zk0 h r _ fun i hi=>?_
    split at hi
    · rename_i hj
      rw [Nat.testBit_or,Bool.or_eq_true] at hi
      rcases hi with hi|hi
      · exact hz i hi
      · exact h j hj i hi
    · exact hz i hi
theorem Zdv {listed : Array Bool} {o0 : Oper} (hc : Znn ops listed) (h0 : ops[k0]? = some o0) (hp : ∀ e ∈ o0.after,Region.binds .any e=true → listed.getD e.on false=true) : ∀ (f i : Nat),(Zhp ops k0 f).testBit i=true → i=k0 ∨ listed.getD i false=true
  | 0,i,h=>by
    rw [Zhp,Nat.testBit_two_pow] at h
    exact .inl (of_decide_eq_true h).symm
  | f + 1,i,h=>by
    rw [Zhp] at h
    refine Zk0 (G:=fun i=>i=k0 ∨ listed.getD i false=true) (fun j hj i hi=>?_) _ _ (fun i hi=>Zdv hc h0 hp f i hi) i h
    have hr:=Zdv hc h0 hp f j hj
    unfold opM at hi
    cases ho : ops[j]? with
    | none=>rw [ho] at hi;simp at hi
    | some o=>
      rw [ho] at hi
      obtain⟨e,h1,h2,rfl⟩:=Zjo hi
      rcases hr with rfl|hr
      · rw [h0] at ho
        cases ho
        exact .inr (hp e (by simpa using h1) h2)
      · exact .inr (hc j o ho hr e (by simpa using h1) h2)
theorem Zoh {i f : Nat} {oi : Oper} {v : Value} (hi : ops[i]? = some oi) (hsel : ∀ (j : Nat) (o : Oper) cs b,ops[j]? = some o → o.op ≠ .select cs b)
    (hQ : ∀ c a w,Q (.panic c) (a.put oi.dst v) w → Q (.panic c) a w) (hb : (Zhp ops k0 f).testBit i=true) (hne : i ≠ k0) :
    ∀ (fuel : Nat) (listed : Array Bool) (a : Act) (w : World),act k0 listed=true → listed.size=ops.size → Znn ops listed →
      (∀ j oj,ops[j]? = some oj → j ≠ i → listed.getD j true=false → (∀ e ∈ oj.after,Region.binds .any e=true → e.on ≠ i) → oi.apart ops oj=true) →
      i ∈ Region.ready .any ops listed → YieldsIf P ops S oi v a → S w →
      wpK P ops Q k0 S fuel (listed.setIfInBounds i true) (a.put oi.dst v) w → wpK P ops Q k0 S (fuel + 1) listed a w:=by
  intro fuel
  induction fuel with
  | zero=>
    intro listed a w hk hsz _ _ hr hy hS H
    refine⟨fun h=>(by rw [h] at hr;cases hr),fun j hj=>?_⟩
    by_cases hji : j=i
    · subst hji;exact hy.wpOp hi hS ⟨fun _=>hS,H⟩
    · have:=ready_mono hj hji
      rw [H.1] at this
      cases this
  | succ fuel ih=>
    intro listed a w hk hsz hcl hfree hr hy hS H
    refine⟨fun h=>(by rw [h] at hr;cases hr),fun j hj=>?_⟩
    by_cases hji : j=i
    · subst hji;exact hy.wpOp hi hS ⟨fun _=>hS,H⟩
    · have h1:=H.2 j (ready_mono hj hji)
      obtain⟨hjun,oj,hoj,hall⟩:=mem_ready.1 hj
      have hun : listed.getD i false=false:=by
        have h0:=(mem_ready.1 hr).1
        rcases Nat.lt_or_ge i listed.size with h'|h'
        · simpa [h'] using h0
        · simp [Array.getElem?_eq_none h']
      have hnot : ∀ e ∈ oj.after,Region.binds .any e=true → e.on ≠ i:=fun e he hb heq=>by
        have h1:=hall e he hb
        rw [heq,hun] at h1
        cases h1
      have hjk : j ≠ k0:=fun e=>by
        subst e
        rcases Zdv hcl hoj hall f i hb with e|e
        · exact hne e
        · rw [hun] at e;cases e
      have h2:=wpOp_putIf hoj (hfree j oj hoj hji hjun hnot) (fun cs b=>hsel i oi cs b hi) (fun cs b=>hsel j oj cs b hoj) hQ hy h1
      have hfree' : ∀ k ok,ops[k]? = some ok → k ≠ i → (listed.setIfInBounds j true).getD k true=false →
          (∀ e ∈ ok.after,Region.binds .any e=true → e.on ≠ i) → oi.apart ops ok=true:=fun k ok hk hki hun hno=>by
        refine hfree k ok hk hki ?_ hno
        by_cases hjk : j=k
        · subst hjk;exact hjun
        · rw [getD_set_ne true hjk] at hun;exact hun
      have up : ∀ x,listed.getD x false=true → (listed.setIfInBounds j true).getD x false=true:=fun x hx=>by
        by_cases hjx : j=x
        · subst hjx
          rcases Nat.lt_or_ge j listed.size with h'|h'
          · simp [h']
          · simp [Array.getElem?_eq_none h'] at hx
        · rw [getD_set_ne false hjx];exact hx
      have hcl' : Znn ops (listed.setIfInBounds j true):=fun x o ho hx e he hbe=>by
        by_cases hjx : j=x
        · subst hjx
          rw [hoj] at ho
          cases ho
          exact up _ (hall e he hbe)
        · rw [getD_set_ne false hjx] at hx
          exact up _ (hcl x o ho hx e he hbe)
      have hk' : act k0 (listed.setIfInBounds j true)=true:=by
        unfold act at *
        rwa [getD_set_ne false hjk]
      have hk2 : act k0 ((listed.setIfInBounds i true).setIfInBounds j true)=true:=by
        unfold act at *
        rw [getD_set_ne false hjk,getD_set_ne false hne];exact hk
      refine wpOp_mono (fun a' w' h3=>⟨fun _=>h3.2.1 hk2,ih (listed.setIfInBounds j true) a' w' hk' (by simpa using hsz) hcl' hfree' (ready_mono hr (Ne.symm hji)) h3.1 (h3.2.1 hk2) ?_⟩) h2
      rw [Array.setIfInBounds_comm _ _ hji]
      exact h3.2.2
end
section
variable {P : Program} {ops : Array Oper} {Q : Exit → Act → World → Prop} {a : Act} {n : Nat} {l : List (Nat × Option Value)} {w : World} {B : List Nat} {k0 h0 : Nat}
  {op : Op} {ty : TypeId} {pos : String} {af : Array Edge} {d fuel : Nat} {v : Value} {listed : Array Bool}
theorem Wj (i f : Nat) (H : Has a n l) (hi : ops[i]? = some ⟨some d,op,ty,pos,af,none⟩) (q : Q1 P (lo l) op (ChgF B h0 w) v) (hd : Nat.blt d n=true) (hs : Region.noSelect ops=true) (hf : Region.free .any ops listed i=true)
    (hr : (Region.ready .any ops listed).contains i=true) (hb : ((Zhp ops k0 f).testBit i && !(Nat.beq i k0) && act k0 listed && (Nat.beq listed.size ops.size) && Zpr ops listed)=true) (hQ : ∀ c a w,Q (.panic c) (a.put (some d) v) w → Q (.panic c) a w)
    (h : ∀ a',Has a' n ((d,some v) :: l) → wpK P ops Q k0 (ChgF B h0 w) fuel (listed.setIfInBounds i true) a' w) : wpK P ops Q k0 (ChgF B h0 w) (fuel + 1) listed a w:=by
  simp only [Bool.and_eq_true,Bool.not_eq_true'] at hb
  obtain⟨⟨⟨⟨h1,h2⟩,h3⟩,h4⟩,h5⟩:=hb
  exact Zoh (oi:=⟨some d,op,ty,pos,af,none⟩) (v:=v) hi (Region.noSelect_spec hs) hQ h1 (fun e=>by rw [e,Nat.beq_refl] at h2;cases h2) fuel listed a w h3 (Nat.eq_of_beq_eq_true h4) (Zkz h5) (Region.free_spec hi hf) (by simpa using hr)
    (.inl ⟨by simp [Region.wanted],fun w' hw=>q a.eval H.eval w' hw (some d) ty pos af none⟩) (ChgF.refl _ _ _) (h _ (H.put d v hd))
end
end Go.Proofs.YtfemfiiagjnhdaaGreatDoor
set_option linter.unusedVariables false
set_option linter.unusedSimpArgs false
set_option linter.unusedSectionVars false
namespace Go.Proofs.YtfemfiiagjnhdaaGreatDoor
open Go Go.RowKit
structure RawC (k : Nat) where
  cs : List Value
  len : cs.length=k
  one : ∀ u ∈ cs,u.oneCell' = true
def rawE {k : Nat} (c : RawC k) : List Value:=c.cs
section
variable {α : Type} {R : World → List Value → α → Prop} {E k n : Nat} {v u : Value} {xs : List α} {x : α} {fp : Nat → Prop} {w0 w w' : World} {rs : List Rs}
theorem SlR.raw (hone : ∀ w cs x,R w cs x → ∀ u ∈ cs,u.oneCell' = true) (h : SlR w k R v xs) : ∃ ys : List (RawC k),SlR w k (Zq rawE) v ys ∧ DIn k R (ys.map RawC.cs) xs w ∧ ys.length=xs.length:=by
  obtain⟨A,c,rfl,h1,h2,h3,h4⟩:=h
  cases A with
  | none=>
    obtain⟨rfl,rfl⟩:=h3 rfl
    exact⟨[],SlR.nil _ _ _,trivial,rfl⟩
  | some ad=>
    have key : ∀ (ys : List α) (o : Nat),(∀ i x,ys[i]? = some x → xs[o + i]? = some x) → ∃ rs : List (RawC k),rs.length=ys.length ∧ DIn k R (rs.map RawC.cs) ys w ∧ ∀ (i : Nat) (r : RawC k),rs[i]? = some r → ∀ j u,r.cs[j]? = some u → w.cell? (ad.add ((o + i) * k + j))=some u:=by
      intro ys
      induction ys with
      | nil=>intro o _;exact⟨[],rfl,trivial,fun i r h=>by simp at h⟩
      | cons y ys ih=>
        intro o ho
        obtain⟨cs,g1,g2,g3⟩:=h4 ad rfl o y (ho 0 y rfl)
        obtain⟨rs,k1,k2,k3⟩:=ih (o + 1) (fun i x hx=>by have:=ho (i + 1) x (by simpa using hx);rw [Nat.add_assoc,Nat.add_comm 1 i];exact this)
        refine⟨⟨cs,g1,hone _ _ _ g2⟩ :: rs,by simp [k1],⟨⟨g1,hone _ _ _ g2,g2⟩,k2⟩,fun i r hr j u hu=>?_⟩
        cases i with
        | zero=>simp at hr;subst hr;exact g3 j u hu
        | succ i=>
          have:=k3 i r (by simpa using hr) j u hu
          rwa [show o + 1 + i=o + (i + 1) by omega] at this
    obtain⟨ys,k1,k2,k3⟩:=key xs 0 (fun i x hx=>by simpa using hx)
    refine⟨ys,⟨some ad,c,by rw [k1],by rw [k1];exact h1,h2,(by intro h;cases h),fun ad' ha i r hr=>?_⟩,k2,k1⟩
    cases ha
    exact⟨r.cs,r.len,rfl,fun j u hu=>by have:=k3 i r hr j u hu;simpa using this⟩
theorem DIn.drop : ∀ {j : Nat} {css : List (List Value)} {xs : List α},DIn k R css xs w → DIn k R (css.drop j) (xs.drop j) w
  | 0,_,_,h=>h
  | j + 1,[],[],_=>trivial
  | j + 1,c :: css,x :: xs,⟨_,h⟩=>DIn.drop (j := j) h
  | j + 1,[],x :: xs,h=>h.elim
  | j + 1,c :: css,[],h=>h.elim
end
section
variable {P : Program} {ops : Array Oper} {Q : Exit → Act → World → Prop} {rest : List Oper} {a : Act} {n : Nat} {l : List (Nat × Option Value)} {w : World}
  {ty : TypeId} {pos : String} {af : Array Edge} {d : Nat} {v u : Value} {k0 fuel h0 : Nat} {listed : Array Bool} {B : List Nat}
variable {α : Type} {R : World → List Value → α → Prop} {E k : Nat} {xs : List α} {x0 x' : α} {w0 : World} {rs : List Rs}
variable {A : Option Addr} {ad : Addr} {x y : Operand} {t m n0 cap i c o : Nat} {F : World → Prop}
end
section
variable {α : Type} {g : α → Nat → Rs} {v : Value} {x : α} {o : Option α} {fp : Nat → Prop} {w0 w : World} {rs : List Rs} {b : Nat}
def optR (g : α → Nat → Rs) (v : Value) : Option α → Rs
  | none=>pureR (v=.pointer none)
  | some x=>exR fun b : Nat=>starR [pureR (v=.pointer (some ⟨b,0,none⟩)),g x b]
theorem St.optNone (g : α → Nat → Rs) (h : St fp w0 w rs) : St fp w0 w (optR g (.pointer none) none :: rs):=h.mkPure rfl
theorem St.optSome (x : α) (h : St fp w0 w (g x b :: rs)) : St fp w0 w (optR g (.pointer (some ⟨b,0,none⟩)) (some x) :: rs):=
  St.mkEx (f:=fun b' : Nat=>starR [pureR (Value.pointer (some ⟨b,0,none⟩)=.pointer (some ⟨b',0,none⟩)),g x b']) b ((h.mkPure rfl).fold [_,_])
theorem St.optOpen (hx : o=some x) (h : St fp w0 w (optR g v o :: rs)) : ∃ b,v=.pointer (some ⟨b,0,none⟩) ∧ St fp w0 w (g x b :: rs):=by
  subst hx
  obtain⟨b,h⟩:=St.ex (f:=fun b : Nat=>starR [pureR (v=.pointer (some ⟨b,0,none⟩)),g x b]) h
  obtain⟨hv,h⟩:=h.star.pure
  exact⟨b,hv,h⟩
end
end Go.Proofs.YtfemfiiagjnhdaaGreatDoor
set_option linter.unusedVariables false
set_option linter.unusedSimpArgs false
set_option maxRecDepth 10000
namespace Go.Proofs.YtfemfiiagjnhdaaGreatDoor
open Go Go.RowKit
theorem ag4 : Za5 Tryz.prog 4=some false:=by kernel_rfl
theorem ag9 : Za5 Tryz.prog 9=some false:=by kernel_rfl
theorem st114 : Zep Tryz.prog 114=some [(3,0),(9,1)]:=by kernel_rfl
theorem st116 : Zep Tryz.prog 116=some [(3,0),(3,1),(4,2)]:=by kernel_rfl
theorem st118 : Zep Tryz.prog 118=some [(3,0),(3,1),(3,2),(3,3)]:=by kernel_rfl
abbrev Vb : Nat:=5
abbrev Zoi : Nat:=8
abbrev Zoj : Nat:=9
abbrev Kl : Nat:=10
abbrev Vv : Nat:=7
abbrev gSum : Nat:=11
abbrev Zin : Nat:=6
abbrev Hr : Nat:=4
abbrev Zaz : Nat:=12
abbrev gArg : Nat:=2
abbrev erQ (A : Nat → Addr) (u : Value) (e : ErrM) : Rs:=anyR fun w=>IsE A w u e
section
variable {fp : Nat → Prop} {w0 w : World} {rs : List Rs} {A : Nat → Addr} {b g : Nat} {p : Int}
theorem St.dAt (hg : g ∈ Zrk) (h : St fp w0 w (blkR b [.int .i64 p,sv 340 A g] 214 :: rs)) : St fp w0 w (erQ A (.iface 210 (.pointer (some ⟨b,0,none⟩))) (.pl p g) :: rs):=h.blkAny (fun w' h=>Xw.mk hg h)
theorem St.dVar (hg : g ∈ Zrk) (h : St fp w0 w rs) : St fp w0 w (erQ A (sv 340 A g) (.v g) :: rs):=h.trivAny fun w'=>⟨hg,rfl⟩
theorem St.dAtE {r e : ErrM} {u : Value} {w2 : World} (hI : IsE A w2 u e) (he : Zrs p e=some r) (h : St fp w0 w (blkR b [.int .i64 p,u] 214 :: rs)) : St fp w0 w (erQ A (.iface 210 (.pointer (some ⟨b,0,none⟩))) r :: rs):=by
  obtain⟨g,rfl,rfl⟩:=Zoe he
  obtain⟨hg,rfl⟩:=hI
  exact h.dAt hg
theorem St.dNil (h : St fp w0 w rs) : St fp w0 w (erQ A .nilIface .nil :: rs):=h.trivAny fun w'=>rfl
end
def pickE : List (Value × ErrM) → Value × ErrM
  | []=>(.nilIface,.nil)
  | p :: l=>if p.2=.nil then pickE l else p
def Zg1 : List ErrM → ErrM
  | []=>.nil
  | m :: l=>if m=.nil then Zg1 l else m
theorem Zps : ∀ ps : List (Value × ErrM),(pickE ps).2=Zg1 (ps.map Prod.snd)
  | []=>rfl
  | p :: l=>by
    by_cases h : p.2=.nil
    · simp only [pickE,Zg1,List.map_cons,h,if_true,Zps l]
    · simp only [pickE,Zg1,List.map_cons,h,if_false]
def REr (A : Nat → Addr) (w : World) (cs : List Value) (p : Value × ErrM) : Prop:=cs=[p.1] ∧ IsE A w p.1 p.2
theorem REr.mono (A : Nat → Addr) : Zkr (REr A):=fun _ _ _ _ e h=>⟨h.1,h.2.agr e⟩
section
variable {fp : Nat → Prop} {w0 w : World} {rs : List Rs} {A : Nat → Addr}
theorem St.dropMid {a : Rs} : ∀ {ms : List Rs},St fp w0 w (a :: (ms ++ rs)) → St fp w0 w (a :: rs)
  | [],h=>h
  | m :: ms,h=>St.dropMid (ms := ms) (St.tail (h.pick 1 rfl))
theorem St.pickE_ (ps : List (Value × ErrM)) : St fp w0 w (ps.map (fun p=>erQ A p.1 p.2) ++ rs) → St fp w0 w (erQ A (pickE ps).1 (pickE ps).2 :: rs):=by
  induction ps with
  | nil=>exact fun h=>h.dNil
  | cons p ps ih=>
    intro h
    by_cases e : p.2=.nil
    · have : pickE (p :: ps)=pickE ps:=by simp only [pickE,e,if_true]
      rw [this];exact ih h.tail
    · have : pickE (p :: ps)=p:=by simp only [pickE,e,if_false]
      rw [this];exact St.dropMid h
theorem St.pickE (ps : List (Value × ErrM)) {l : List Rs} (hl : l=ps.map (fun p=>erQ A p.1 p.2) ++ rs) (h : St fp w0 w l) : St fp w0 w (erQ A (pickE ps).1 (Zg1 (ps.map Prod.snd)) :: rs):=by
  subst hl;rw [← Zps];exact h.pickE_ ps
end
structure GPagePlan where
  Rights : Int
  Init : ByteArray
  deriving DecidableEq
def Qc (x : GPagePlan) : List Value:=[.int .i64 x.Rights,.string x.Init]
theorem Zb9 (x : GPagePlan) : ∀ u ∈ Qc x,u.oneCell' = true:=by
  intro u hu
  simp only [Qc,List.mem_append,List.mem_cons,List.mem_map,List.not_mem_nil,or_false] at hu
  rcases hu with rfl|rfl <;> rfl
structure GProcPlan where
  Entry : Int
  Prio : Int
  Auto : Bool
  deriving DecidableEq
def Zx (x : GProcPlan) : List Value:=[.int .i64 x.Entry,.int .i64 x.Prio,.bool x.Auto]
theorem Zca (x : GProcPlan) : ∀ u ∈ Zx x,u.oneCell' = true:=by
  intro u hu
  simp only [Zx,List.mem_append,List.mem_cons,List.mem_map,List.not_mem_nil,or_false] at hu
  rcases hu with rfl|rfl|rfl <;> rfl
structure GPortPlan where
  Kind : Int
  Size : Int
  Depth : Int
  Refresh : Int
  deriving DecidableEq
def Zw (x : GPortPlan) : List Value:=[.int .i64 x.Kind,.int .i64 x.Size,.int .i64 x.Depth,.int .i64 x.Refresh]
theorem Zcb (x : GPortPlan) : ∀ u ∈ Zw x,u.oneCell' = true:=by
  intro u hu
  simp only [Zw,List.mem_append,List.mem_cons,List.mem_map,List.not_mem_nil,or_false] at hu
  rcases hu with rfl|rfl|rfl|rfl <;> rfl
structure GPlan where
  Id : Int
  Mobile : Bool
  Pages : List GPagePlan
  Procs : List GProcPlan
  Ports : List GPortPlan
  Events : Int
  Sems : List Int
  deriving DecidableEq
def Qw (w : World) (cs : List Value) (x : GPlan) : Prop:=∃ v0 v1 v2 v3,cs=[.int .i64 x.Id,.bool x.Mobile,v0,v1,v2,.int .i64 x.Events,v3] ∧ SlR w 2 (Zq Qc) v0 x.Pages ∧ SlR w 3 (Zq Zx) v1 x.Procs ∧ SlR w 4 (Zq Zw) v2 x.Ports ∧ SlR w 1 (Zq eI) v3 x.Sems
theorem Qw.mono : Zkr Qw:=by
  intro w w' cs x e h
  obtain⟨v0,v1,v2,v3,rfl,h0,h1,h2,h3⟩:=h
  exact⟨v0,v1,v2,v3,rfl,h0.agr (Zq.mono _) e,h1.agr (Zq.mono _) e,h2.agr (Zq.mono _) e,h3.agr (Zq.mono _) e⟩
noncomputable def Za0 : Option GPlan:=some (⟨3,true,[(⟨5,⟨#[97,98]⟩⟩ : GPagePlan),(⟨3,⟨#[]⟩⟩ : GPagePlan)],[(⟨0,7,true⟩ : GProcPlan),(⟨64,9,false⟩ : GProcPlan)],[(⟨1,4,1,2⟩ : GPortPlan),(⟨4,8,2,0⟩ : GPortPlan)],1,[2]⟩ : GPlan)
noncomputable def Zam (a0 : Int) (a1 : ErrM) : Option ErrM:=(Zrs a0 a1).bind fun aA=>some aA
noncomputable def Kg (a0 : GPlan) : Nat → Option (Nat ⊕ (Unit ⊕ ErrM)):=fun aA=>(bif decide (aA < a0.Pages.length) then (a0.Pages[aA]?).bind fun aB=>(bif (decide (aB.Rights < 0) || decide (7 < aB.Rights)) then (Zam ((aA : Nat) : Int) (.v Kl)).bind fun aC=>some (.inr (.inr aC)) else (bif decide (64 < aB.Init.size) then (Zam ((aA : Nat) : Int) (.v Vv)).bind fun aD=>some (.inr (.inr aD)) else some (.inl (aA + 1)))) else some (.inr (.inl ())))
noncomputable def Wk (a0 : GPlan) : Option ErrM:=(bif (decide (a0.Pages.length < 1) || decide (32 < a0.Pages.length)) then some (.v Zaz) else (Vj (Kg a0) 0).bind (fun q=>match q with | .inl _=>some .nil | .inr p=>some p))
noncomputable def Wd (aA : Nat) : Bool → Option (Nat ⊕ (Unit ⊕ ErrM)):=fun aB=>(bif aB then (Zam ((aA : Nat) : Int) (.v Kl)).bind fun aC=>some (.inr (.inr aC)) else some (.inl (aA + 1)))
noncomputable def Kh (a0 : GPlan) : Nat → Option (Nat ⊕ (Unit ⊕ ErrM)):=fun aB=>(bif decide (aB < a0.Procs.length) then (a0.Procs[aB]?).bind fun aA=>(((bif decide (aA.Entry < 0) then some true else (bif decide ((IntKind.i64.wrap (64 * ((a0.Pages.length : Nat) : Int))) ≤ aA.Entry) then some true else (bif (!decide ((Int.tmod aA.Entry 4)=0)) then some true else (bif decide (aA.Prio < 0) then some true else some (decide (255 < aA.Prio))))))) : Option Bool).bind (fun p=>(Wd aB) p) else some (.inr (.inl ())))
noncomputable def Wl (a0 : GPlan) : Option ErrM:=(bif (decide (a0.Procs.length < 1) || decide (8 < a0.Procs.length)) then some (.v Zaz) else (Vj (Kh a0) 0).bind (fun q=>match q with | .inl _=>some .nil | .inr p=>some p))
noncomputable def Zaf (a0 : GPortPlan) : Option Bool:=some (decide (a0.Kind=3) || decide (a0.Kind=4))
noncomputable def Zdg (a0 : GPortPlan) : Option Bool:=some (decide (a0.Kind=1) || decide (a0.Kind=3))
noncomputable def Tf (a0 : GPortPlan) : Option Bool:=some (decide (a0.Kind=2) || decide (a0.Kind=4))
noncomputable def Wx (a0 : GPortPlan) (aC : Nat) (aA : Nat) : Bool → Option ErrM:=fun aB=>(bif aB then some (.v Zin) else (bif (decide (a0.Size < 1) || decide (32 < a0.Size)) then some (.v Zaz) else (bif (((decide (a0.Depth < 1) || decide (((aC : Nat) : Int) < a0.Depth)) || decide (a0.Refresh < 0)) || decide (((aA : Nat) : Int) < a0.Refresh)) then some (.v Kl) else some .nil)))
noncomputable def Wy (a0 : GPortPlan) (aD : Nat) : Nat → Option ErrM:=fun aA=>(((Zdg a0).bind fun aB=>(bif (!aB) then (Tf a0).bind fun aC=>some (!aC) else some false)) : Option Bool).bind (fun p=>(Wx a0 aD aA) p)
noncomputable def Wz (a0 : GPortPlan) : Nat → Option ErrM:=fun aA=>(((bif decide (a0.Kind=1) then some 255 else some 0)) : Option Nat).bind (fun p=>(Wy a0 aA) p)
noncomputable def Vk (a0 : GPortPlan) : Option ErrM:=(((Zaf a0).bind fun aA=>(bif aA then some 8 else some 1)) : Option Nat).bind (fun p=>(Wz a0) p)
noncomputable def Zbe (a0 : GPortPlan) : Option (Int × ErrM):=(Vk a0).bind fun aA=>(bif (!decide (aA=.nil)) then some (0,(.v Hr)) else (Tf a0).bind fun aB=>(bif aB then some (2,.nil) else some ((IntKind.i64.wrap (2 + (IntKind.i64.wrap (a0.Depth * (IntKind.i64.wrap (1 + a0.Size)))))),.nil)))
noncomputable def Wm (a0 : GPlan) : (Int × Nat) → Option ((Int × Nat) ⊕ Int):=fun (aB,aA)=>(bif decide (aA < a0.Ports.length) then (a0.Ports[aA]?).bind fun aC=>(Zbe aC).bind fun aD=>some (.inl ((IntKind.i64.wrap (aB + (IntKind.i64.wrap (3 + aD.1)))),aA + 1)) else some (.inr aB))
noncomputable def Tg (a0 : GPlan) : Option Int:=(Vj (Wm a0) ((IntKind.i64.wrap ((IntKind.i64.wrap ((IntKind.i64.wrap ((IntKind.i64.wrap (58 + (IntKind.i64.wrap (76 * ((a0.Procs.length : Nat) : Int))))) + (IntKind.i64.wrap (68 * ((a0.Pages.length : Nat) : Int))))) + a0.Events)) + ((a0.Sems.length : Nat) : Int))),0)).bind (fun aA=>some aA)
noncomputable def Ko (a0 : GPlan) : Nat → Option (Nat ⊕ (Unit ⊕ ErrM)):=fun aA=>(bif decide (aA < a0.Sems.length) then (a0.Sems[aA]?).bind fun aB=>(bif (decide (aB < 0) || decide (255 < aB)) then (Zam ((aA : Nat) : Int) (.v Kl)).bind fun aC=>some (.inr (.inr aC)) else some (.inl (aA + 1))) else some (.inr (.inl ())))
noncomputable def Kp (a0 : GPlan) : Nat → Option (Nat ⊕ (Unit ⊕ ErrM)):=fun aA=>(bif decide (aA < a0.Ports.length) then (a0.Ports[aA]?).bind fun aC=>(Vk aC).bind fun aB=>(bif (!decide (aB=.nil)) then (Zam ((aA : Nat) : Int) aB).bind fun aD=>some (.inr (.inr aD)) else some (.inl (aA + 1))) else some (.inr (.inl ())))
noncomputable def Uq (a0 : GPlan) : Option ErrM:=(bif decide (8 < a0.Ports.length) then some (.v Zaz) else (Vj (Kp a0) 0).bind (fun q=>match q with | .inl _=>(bif (decide (a0.Events < 0) || decide (8 < a0.Events)) then some (.v Kl) else (bif decide (8 < a0.Sems.length) then some (.v Zaz) else (Vj (Ko a0) 0).bind (fun q=>match q with | .inl _=>(Tg a0).bind fun aA=>(bif decide (4096 < aA) then some (.v Zaz) else some .nil) | .inr p=>some p))) | .inr p=>some p))
noncomputable def Kz (a0 : GPlan) : Option ErrM:=(bif (decide (a0.Id < 0) || decide (2147483647 < a0.Id)) then some (.v Kl) else (Wk a0).bind fun aA=>(bif (!decide (aA=.nil)) then some aA else (Wl a0).bind fun aB=>(bif (!decide (aB=.nil)) then some aB else (Uq a0).bind fun aC=>(bif (!decide (aC=.nil)) then some aC else some .nil))))
structure GWireWriter where
  buf_ : List UInt8
  err_ : ErrM
  deriving DecidableEq
noncomputable def Kj : Option GWireWriter:=some (⟨([] : List UInt8),.nil⟩ : GWireWriter)
noncomputable def Xl (a0 : List UInt8) : Option (List UInt8):=chk ((([] : List UInt8).length + a0.length) * 1 ≤ 140737488355328) (some (([] : List UInt8) ++ a0))
noncomputable def Kc (a0 : GWireWriter) : Option (List UInt8 × ErrM × GWireWriter):=(bif (!decide (a0.err_=.nil)) then some (([] : List UInt8),a0.err_,(⟨a0.buf_,a0.err_⟩ : GWireWriter)) else (Xl a0.buf_).bind fun aA=>some (aA,.nil,(⟨a0.buf_,a0.err_⟩ : GWireWriter)))
noncomputable def Xr (a0 : GWireWriter) (a1 : List UInt8) : Option GWireWriter:=(bif decide (a0.err_=.nil) then chk ((a0.buf_.length + a1.length) * 1 ≤ 140737488355328) (some (⟨(a0.buf_ ++ a1),a0.err_⟩ : GWireWriter)) else some (⟨a0.buf_,a0.err_⟩ : GWireWriter))
noncomputable def Kq (a0 : Int) : Option Int:=chk (0 ≤ (IntKind.i64.wrap (8 * a0))) (some (IntKind.i64.wrap ((shL .i64 1 (IntKind.i64.wrap (8 * a0))) - 1)))
noncomputable def Ya (a0 : Int) (a1 : ErrM) : Option ErrM:=(Zrs a0 a1).bind fun aA=>some aA
noncomputable def Vc (a0 : GWireWriter) (a1 : ErrM) : Option GWireWriter:=(bif decide (a0.err_=.nil) then (Ya ((a0.buf_.length : Nat) : Int) a1).bind fun aA=>some (⟨a0.buf_,aA⟩ : GWireWriter) else some (⟨a0.buf_,a0.err_⟩ : GWireWriter))
noncomputable def Jg (a1 : Int) : (Int × List UInt8 × ErrM) → Option ((Int × List UInt8 × ErrM) ⊕ (List UInt8 × ErrM)):=fun (aA,aB,aC)=>(bif decide (0 ≤ aA) then chk (0 ≤ (IntKind.i64.wrap (8 * aA))) ((Xr (⟨aB,aC⟩ : GWireWriter) [(Zt (shR .i64 a1 (IntKind.i64.wrap (8 * aA))))]).bind fun aD=>some (.inl ((IntKind.i64.wrap (aA - 1)),aD.buf_,aD.err_))) else some (.inr (aB,aC)))
noncomputable def We (a0 : GWireWriter) (a1 : Int) (a2 : Int) : Bool → Option GWireWriter:=fun aB=>(bif aB then (Vc (⟨a0.buf_,a0.err_⟩ : GWireWriter) (.v Kl)).bind fun aA=>some (⟨aA.buf_,aA.err_⟩ : GWireWriter) else (Vj (Jg a1) ((IntKind.i64.wrap (a2 - 1)),a0.buf_,a0.err_)).bind (fun (aC,aD)=>some (⟨aC,aD⟩ : GWireWriter)))
noncomputable def Qq (a0 : GWireWriter) (a1 : Int) (a2 : Int) : Option GWireWriter:=(((bif decide (a1 < 0) then some true else (Kq a2).bind fun aA=>some (decide (aA < a1)))) : Option Bool).bind (fun p=>(We a0 a1 a2) p)
noncomputable def Yq (a0 : GWireWriter) (a1 : Int) (a2 : List UInt8) : Bool → Option GWireWriter:=fun aF=>(bif aF then (Vc (⟨a0.buf_,a0.err_⟩ : GWireWriter) (.v Zoj)).bind fun aA=>some (⟨aA.buf_,aA.err_⟩ : GWireWriter) else (bif decide (65535 < a2.length) then (Vc (⟨a0.buf_,a0.err_⟩ : GWireWriter) (.v Vv)).bind fun aB=>some (⟨aB.buf_,aB.err_⟩ : GWireWriter) else (Qq (⟨a0.buf_,a0.err_⟩ : GWireWriter) a1 1).bind fun aC=>(Qq (⟨aC.buf_,aC.err_⟩ : GWireWriter) ((a2.length : Nat) : Int) 2).bind fun aD=>(Xr (⟨aD.buf_,aD.err_⟩ : GWireWriter) a2).bind fun aE=>some (⟨aE.buf_,aE.err_⟩ : GWireWriter)))
noncomputable def Yp (a0 : GWireWriter) (a1 : Int) (a2 : List UInt8) : Option GWireWriter:=(((bif decide (a1 < 1) then some true else (Kq 1).bind fun aA=>some (decide (aA < a1)))) : Option Bool).bind (fun p=>(Yq a0 a1 a2) p)
noncomputable def Yr (a0 : GWireWriter) (a1 : Int) (a2 : GWireWriter → Option GWireWriter) : Option GWireWriter:=(Kj).bind fun aA=>(a2 (⟨aA.buf_,aA.err_⟩ : GWireWriter)).bind fun aB=>(Kc (⟨aB.buf_,aB.err_⟩ : GWireWriter)).bind fun aD=>(Yp (⟨a0.buf_,a0.err_⟩ : GWireWriter) a1 aD.1).bind fun aC=>some (⟨aC.buf_,aC.err_⟩ : GWireWriter)
noncomputable def Kr (a0 : GWireWriter) (a1 : List UInt8) : Option GWireWriter:=(Xr (⟨a0.buf_,a0.err_⟩ : GWireWriter) a1).bind fun aA=>some (⟨aA.buf_,aA.err_⟩ : GWireWriter)
noncomputable def Xc (a0 : GWireWriter) (a1 : Int) : Option GWireWriter:=(Qq (⟨a0.buf_,a0.err_⟩ : GWireWriter) a1 1).bind fun aA=>some (⟨aA.buf_,aA.err_⟩ : GWireWriter)
noncomputable def Yk (a0 : GWireWriter) (a1 : GPagePlan) : Option GWireWriter:=(Xc (⟨a0.buf_,a0.err_⟩ : GWireWriter) a1.Rights).bind fun aA=>chk (a1.Init.size ≤ 9223372036854775807) ((Kr (⟨aA.buf_,aA.err_⟩ : GWireWriter) a1.Init.data.toList).bind fun aB=>some (⟨aB.buf_,aB.err_⟩ : GWireWriter))
noncomputable def Ks (a0 : GWireWriter) (a1 : Int) : Option GWireWriter:=(Qq (⟨a0.buf_,a0.err_⟩ : GWireWriter) a1 4).bind fun aA=>some (⟨aA.buf_,aA.err_⟩ : GWireWriter)
noncomputable def Yf (a0 : GWireWriter) (a1 : Bool) : Option GWireWriter:=(bif a1 then (Xr (⟨a0.buf_,a0.err_⟩ : GWireWriter) [(Zt 1)]).bind fun aA=>some (⟨aA.buf_,aA.err_⟩ : GWireWriter) else (Xr (⟨a0.buf_,a0.err_⟩ : GWireWriter) [(Zt 0)]).bind fun aB=>some (⟨aB.buf_,aB.err_⟩ : GWireWriter))
noncomputable def Yl (a0 : GWireWriter) (a1 : GProcPlan) : Option GWireWriter:=(Ks (⟨a0.buf_,a0.err_⟩ : GWireWriter) a1.Entry).bind fun aA=>(Xc (⟨aA.buf_,aA.err_⟩ : GWireWriter) a1.Prio).bind fun aB=>(Yf (⟨aB.buf_,aB.err_⟩ : GWireWriter) a1.Auto).bind fun aC=>some (⟨aC.buf_,aC.err_⟩ : GWireWriter)
noncomputable def Ym (a0 : GWireWriter) (a1 : GPortPlan) : Option GWireWriter:=(Xc (⟨a0.buf_,a0.err_⟩ : GWireWriter) a1.Kind).bind fun aA=>(Xc (⟨aA.buf_,aA.err_⟩ : GWireWriter) a1.Size).bind fun aB=>(Xc (⟨aB.buf_,aB.err_⟩ : GWireWriter) a1.Depth).bind fun aC=>(Xc (⟨aC.buf_,aC.err_⟩ : GWireWriter) a1.Refresh).bind fun aD=>some (⟨aD.buf_,aD.err_⟩ : GWireWriter)
noncomputable def Yn (a0 : GWireWriter) (a1 : GPlan) : Option GWireWriter:=(Xc (⟨a0.buf_,a0.err_⟩ : GWireWriter) a1.Events).bind fun aA=>some (⟨aA.buf_,aA.err_⟩ : GWireWriter)
noncomputable def Kt (a1 : GPlan) : (Nat × List UInt8 × ErrM) → Option ((Nat × List UInt8 × ErrM) ⊕ (List UInt8 × ErrM)):=fun (aA,aB,aC)=>(bif decide (aA < a1.Sems.length) then (a1.Sems[aA]?).bind fun aE=>(Xc (⟨aB,aC⟩ : GWireWriter) aE).bind fun aD=>some (.inl (aA + 1,aD.buf_,aD.err_)) else some (.inr (aB,aC)))
noncomputable def Yo (a0 : GWireWriter) (a1 : GPlan) : Option GWireWriter:=(Vj (Kt a1) (0,a0.buf_,a0.err_)).bind (fun (aA,aB)=>some (⟨aA,aB⟩ : GWireWriter))
noncomputable def Yv (a0 : GPlan) : (Nat × List UInt8 × ErrM) → Option ((Nat × List UInt8 × ErrM) ⊕ (List UInt8 × ErrM)):=fun (aA,aC,aD)=>(bif decide (aA < a0.Ports.length) then (a0.Ports[aA]?).bind fun aE=>(Yr (⟨aC,aD⟩ : GWireWriter) 3 (fun x0=>Ym x0 aE)).bind fun aB=>some (.inl (aA + 1,aB.buf_,aB.err_)) else some (.inr (aC,aD)))
noncomputable def Yw (a0 : GPlan) : (Nat × List UInt8 × ErrM) → Option ((Nat × List UInt8 × ErrM) ⊕ (List UInt8 × ErrM)):=fun (aA,aB,aC)=>(bif decide (aA < a0.Procs.length) then (a0.Procs[aA]?).bind fun aE=>(Yr (⟨aB,aC⟩ : GWireWriter) 2 (fun x0=>Yl x0 aE)).bind fun aD=>some (.inl (aA + 1,aD.buf_,aD.err_)) else some (.inr (aB,aC)))
noncomputable def Yx (a0 : GPlan) : (Nat × List UInt8 × ErrM) → Option ((Nat × List UInt8 × ErrM) ⊕ (List UInt8 × ErrM)):=fun (aA,aB,aC)=>(bif decide (aA < a0.Pages.length) then (a0.Pages[aA]?).bind fun aE=>(Yr (⟨aB,aC⟩ : GWireWriter) 1 (fun x0=>Yk x0 aE)).bind fun aD=>some (.inl (aA + 1,aD.buf_,aD.err_)) else some (.inr (aB,aC)))
noncomputable def Hs (a0 : GPlan) : Option GWireWriter:=(Kj).bind fun aC=>(Vj (Yx a0) (0,aC.buf_,aC.err_)).bind (fun (aD,aE)=>(Vj (Yw a0) (0,aD,aE)).bind (fun (aF,aG)=>(Vj (Yv a0) (0,aF,aG)).bind (fun (aH,aI)=>(Yr (⟨aH,aI⟩ : GWireWriter) 4 (fun x0=>Yn x0 a0)).bind fun aA=>(Yr (⟨aA.buf_,aA.err_⟩ : GWireWriter) 5 (fun x0=>Yo x0 a0)).bind fun aB=>some (⟨aB.buf_,aB.err_⟩ : GWireWriter))))
noncomputable def Wn (a0 : GWireWriter) (a1 : Int) : Option GWireWriter:=(Qq (⟨a0.buf_,a0.err_⟩ : GWireWriter) a1 2).bind fun aA=>some (⟨aA.buf_,aA.err_⟩ : GWireWriter)
noncomputable def Zcr (a0 : Int) : Option Int:=(bif decide ((Zho .u32 a0 1)=1) then some (Uo .u32 (shR .u32 a0 1) 3988292384) else some (shR .u32 a0 1))
noncomputable def Vw : (Int × Nat) → Option ((Int × Nat) ⊕ Int):=fun (aA,aB)=>(bif decide (aB < 8) then (Zcr aA).bind fun aC=>some (.inl (aC,aB + 1)) else some (.inr aA))
noncomputable def Vx : (Nat × Vector Int 256) → Option ((Nat × Vector Int 256) ⊕ (Vector Int 256)):=fun (aA,aB)=>(bif decide (aA < 256) then (Vj Vw ((IntKind.u32.wrap ((aA : Nat) : Int)),0)).bind (fun aC=>(rdV aB ((aA : Nat) : Int)).bind fun aD=>some (.inl (aA + 1,(aB.setIfInBounds (((aA : Nat) : Int).toNat) aC)))) else some (.inr aB))
noncomputable def Zbf : Option (Vector Int 256):=(Vj Vx (0,#v[0,0,0,0,0,0,0,0,0,0,0,0,0,0,0,0,0,0,0,0,0,0,0,0,0,0,0,0,0,0,0,0,0,0,0,0,0,0,0,0,0,0,0,0,0,0,0,0,0,0,0,0,0,0,0,0,0,0,0,0,0,0,0,0,0,0,0,0,0,0,0,0,0,0,0,0,0,0,0,0,0,0,0,0,0,0,0,0,0,0,0,0,0,0,0,0,0,0,0,0,0,0,0,0,0,0,0,0,0,0,0,0,0,0,0,0,0,0,0,0,0,0,0,0,0,0,0,0,0,0,0,0,0,0,0,0,0,0,0,0,0,0,0,0,0,0,0,0,0,0,0,0,0,0,0,0,0,0,0,0,0,0,0,0,0,0,0,0,0,0,0,0,0,0,0,0,0,0,0,0,0,0,0,0,0,0,0,0,0,0,0,0,0,0,0,0,0,0,0,0,0,0,0,0,0,0,0,0,0,0,0,0,0,0,0,0,0,0,0,0,0,0,0,0,0,0,0,0,0,0,0,0,0,0,0,0,0,0,0,0,0,0,0,0,0,0,0,0,0,0,0,0,0,0,0,0])).bind (fun aA=>some aA)
noncomputable def Gy (a1 : List UInt8) (aC : Vector Int 256) : (Int × Nat) → Option ((Int × Nat) ⊕ Int):=fun (aA,aB)=>(bif decide (aB < a1.length) then (a1[aB]?).bind fun aD=>(rdV aC (Uo .u8 (IntKind.u8.wrap aA) (aD.toNat : Int))).bind fun aE=>some (.inl ((Uo .u32 aE (shR .u32 aA 8)),aB + 1)) else some (.inr aA))
noncomputable def Za7 (a0 : Int) (a1 : List UInt8) : Option Int:=(bif decide (a1.length=0) then some a0 else (Zbf).bind fun aA=>(Vj (Gy a1 aA) (a0,0)).bind (fun aB=>some aB))
noncomputable def Zd7 (a0 : Int) (a1 : List UInt8) : Option Int:=(Za7 (Zrc .u32 a0) a1).bind fun aA=>some (Zrc .u32 aA)
noncomputable def Zbg (a0 : List UInt8) : Option Int:=(Zd7 0 a0).bind fun aA=>some aA
noncomputable def Ua (a0 : List UInt8) : Option (List UInt8):=chk ((([] : List UInt8).length + a0.length) * 1 ≤ 140737488355328) (some (([] : List UInt8) ++ a0))
noncomputable def Za8 (a0 : Int) : Option (List UInt8):=some [(Zt a0),(Zt (shR .u32 a0 8)),(Zt (shR .u32 a0 16)),(Zt (shR .u32 a0 24))]
noncomputable def Zcs (a0 : List UInt8) : Option (List UInt8):=(Ua a0).bind fun aA=>(Zbg a0).bind fun aC=>(Za8 aC).bind fun aB=>chk ((aA.length + aB.length) * 1 ≤ 140737488355328) (some (aA ++ aB))
noncomputable def Yb (a0 : GPlan) : Option (List UInt8 × ErrM):=(Kz a0).bind fun aL=>(bif (!decide (aL=.nil)) then some (([] : List UInt8),(.v Hr)) else (Hs a0).bind fun aE=>(Kc (⟨aE.buf_,aE.err_⟩ : GWireWriter)).bind fun aB=>(bif (!decide (aB.2.1=.nil)) then some (([] : List UInt8),aB.2.1) else (Kj).bind fun aF=>(Kr (⟨aF.buf_,aF.err_⟩ : GWireWriter) [(Zt 70),(Zt 80),(Zt 76),(Zt 78)]).bind fun aG=>(Wn (⟨aG.buf_,aG.err_⟩ : GWireWriter) 1).bind fun aH=>(Ks (⟨aH.buf_,aH.err_⟩ : GWireWriter) (IntKind.i64.wrap ((IntKind.i64.wrap (15 + ((aB.1.length : Nat) : Int))) + 4))).bind fun aI=>(Ks (⟨aI.buf_,aI.err_⟩ : GWireWriter) a0.Id).bind fun aJ=>(Yf (⟨aJ.buf_,aJ.err_⟩ : GWireWriter) a0.Mobile).bind fun aC=>(Kr (⟨aC.buf_,aC.err_⟩ : GWireWriter) aB.1).bind fun aD=>(Kc (⟨aD.buf_,aD.err_⟩ : GWireWriter)).bind fun aA=>(bif (!decide (aA.2.1=.nil)) then some (([] : List UInt8),aA.2.1) else (Zcs aA.1).bind fun aK=>some (aK,.nil))))
noncomputable def Gf (a0 : List Int) : Option (List Int):=chk ((([] : List Int).length + a0.length) * 8 ≤ 140737488355328) (some (([] : List Int) ++ a0))
structure GProc where
  Regs : Vector Int 16
  Pc : Int
  State : Int
  Prio : Int
  Wait : Int
  Obj : Int
  deriving DecidableEq
def Zbh (x : GProc) : List Value:=x.Regs.toList.map (Value.int .u32) ++ [.int .u32 x.Pc,.int .i64 x.State,.int .i64 x.Prio,.int .i64 x.Wait,.int .i64 x.Obj]
theorem Za9 (x : GProc) : (Zbh x).length=21:=by simp [Zbh]
theorem Zi5 (x : GProc) : ∀ u ∈ Zbh x,u.oneCell' = true:=by
  intro u hu
  simp only [Zbh,List.mem_append,List.mem_cons,List.mem_map,List.not_mem_nil,or_false] at hu
  rcases hu with (⟨_,_,rfl⟩) | (rfl|rfl|rfl|rfl|rfl) <;> rfl
structure GTimer where
  Proc : Int
  Due : Int
  deriving DecidableEq
def Zpt (x : GTimer) : List Value:=[.int .i64 x.Proc,.int .i64 x.Due]
structure GPort where
  Msgs : List ByteArray
  Age : Int
  deriving DecidableEq
def Wu (w : World) (cs : List Value) (x : GPort) : Prop:=∃ v0,cs=[v0,.int .i64 x.Age] ∧ SlR w 1 (Zq eS) v0 x.Msgs
theorem Wu.mono : Zkr Wu:=by
  intro w w' cs x e h
  obtain⟨v0,rfl,h0⟩:=h
  exact⟨v0,rfl,h0.agr (Zq.mono _) e⟩
structure GPage where
  Rights : Int
  Dirty : Bool
  Data : Vector UInt8 64
  deriving DecidableEq
def Zct (x : GPage) : List Value:=[.int .i64 x.Rights,.bool x.Dirty] ++ x.Data.toList.map (fun b : UInt8=>Value.int .u8 (b.toNat : Int))
theorem Th (x : GPage) : (Zct x).length=66:=by simp [Zct]
theorem Zi6 (x : GPage) : ∀ u ∈ Zct x,u.oneCell' = true:=by
  intro u hu
  simp only [Zct,List.mem_append,List.mem_cons,List.mem_map,List.not_mem_nil,or_false] at hu
  rcases hu with (rfl|rfl) | (⟨_,_,rfl⟩) <;> rfl
structure GState where
  Id : Int
  Frame : Int
  Epoch : Int
  Procs : List GProc
  Ready : List Int
  Timers : List GTimer
  Up : List Bool
  Sems : List Int
  Ports : List GPort
  Pages : List GPage
  deriving DecidableEq
def Zpu (w : World) (cs : List Value) (x : GState) : Prop:=∃ v0 v1 v2 v3 v4 v5 v6,cs=[.int .i64 x.Id,.int .i64 x.Frame,.int .i64 x.Epoch,v0,v1,v2,v3,v4,v5,v6] ∧ SlR w 21 (Zq Zbh) v0 x.Procs ∧ SlR w 1 (Zq eI) v1 x.Ready ∧ SlR w 2 (Zq Zpt) v2 x.Timers ∧ SlR w 1 (Zq eF) v3 x.Up ∧ SlR w 1 (Zq eI) v4 x.Sems ∧ SlR w 2 Wu v5 x.Ports ∧ SlR w 66 (Zq Zct) v6 x.Pages
theorem Zpu.mono : Zkr Zpu:=by
  intro w w' cs x e h
  obtain⟨v0,v1,v2,v3,v4,v5,v6,rfl,h0,h1,h2,h3,h4,h5,h6⟩:=h
  exact⟨v0,v1,v2,v3,v4,v5,v6,rfl,h0.agr (Zq.mono _) e,h1.agr (Zq.mono _) e,h2.agr (Zq.mono _) e,h3.agr (Zq.mono _) e,h4.agr (Zq.mono _) e,h5.agr Wu.mono e,h6.agr (Zq.mono _) e⟩
noncomputable def Zag (aD : Nat) (aB : List GProc) : (List Int × GProc) → Option ((Nat × List GProc × List Int) ⊕ (List GProc × List Int)):=fun (aC,aA)=>chk ((aB.length + [aA].length) * 104 ≤ 140737488355328) (some (.inl (aD + 1,(aB ++ [aA]),aC)))
noncomputable def Uu (a0 : GPlan) : (Nat × List GPage) → Option ((Nat × List GPage) ⊕ (List GPage)):=fun (aB,aC)=>(bif decide (aB < a0.Pages.length) then (a0.Pages[aB]?).bind fun aA=>chk ((aC.length + [(⟨aA.Rights,false,(Zrd (Vector.replicate 64 0) aA.Init)⟩ : GPage)].length) * 80 ≤ 140737488355328) (some (.inl (aB + 1,(aC ++ [(⟨aA.Rights,false,(Zrd (Vector.replicate 64 0) aA.Init)⟩ : GPage)])))) else some (.inr aC))
noncomputable def Uv (a0 : GPlan) : (Nat × List GProc × List Int) → Option ((Nat × List GProc × List Int) ⊕ (List GProc × List Int)):=fun (aA,aD,aC)=>(bif decide (aA < a0.Procs.length) then (a0.Procs[aA]?).bind fun aB=>(((bif aB.Auto then chk ((aC.length + [((aA : Nat) : Int)].length) * 8 ≤ 140737488355328) (some ((aC ++ [((aA : Nat) : Int)]),(⟨(Vector.replicate 16 0),(IntKind.u32.wrap aB.Entry),1,aB.Prio,0,0⟩ : GProc))) else some (aC,(⟨(Vector.replicate 16 0),(IntKind.u32.wrap aB.Entry),0,aB.Prio,0,0⟩ : GProc)))) : Option (List Int × GProc)).bind (fun p=>(Zag aA aD) p) else some (.inr (aD,aC)))
noncomputable def Zah (a0 : GPlan) : (List Bool × List Int × List GPort) → Option (GState × ErrM):=fun (aB,aC,aD)=>(Vj (Uv a0) (0,([] : List GProc),([] : List Int))).bind (fun (aE,aF)=>(Vj (Uu a0) (0,([] : List GPage))).bind (fun aA=>some ((⟨a0.Id,0,0,aE,aF,([] : List GTimer),aB,aC,aD,aA⟩ : GState),.nil)))
noncomputable def Zbi (a0 : GPlan) : Option (GState × ErrM):=(Kz a0).bind fun aB=>(bif (!decide (aB=.nil)) then some ((⟨0,0,0,([] : List GProc),([] : List Int),([] : List GTimer),([] : List Bool),([] : List Int),([] : List GPort),([] : List GPage)⟩ : GState),(.v Hr)) else ((chk (0 ≤ a0.Events) (chk (a0.Events.toNat * 1 ≤ 140737488355328) ((Gf a0.Sems).bind fun aA=>chk (a0.Ports.length * 32 ≤ 140737488355328) (some ((List.replicate a0.Events.toNat false),aA,(List.replicate a0.Ports.length (⟨([] : List ByteArray),0⟩ : GPort))))))) : Option (List Bool × List Int × List GPort)).bind (fun p=>(Zah a0) p))
noncomputable def Zan (a0 : GPlan) : Option (Int × ErrM):=(Kz a0).bind fun aA=>(bif (!decide (aA=.nil)) then some (0,(.v Hr)) else (Tg a0).bind fun aB=>some (aB,.nil))
noncomputable def Hw (aA : GPlan) : Bool → Option Bool:=fun aD=>(bif aD then some false else (aA.Procs[1]?).bind fun aB=>(Kz (⟨aA.Id,aA.Mobile,aA.Pages,(aA.Procs.set 1 (⟨66,aB.Prio,aB.Auto⟩ : GProcPlan)),aA.Ports,aA.Events,aA.Sems⟩ : GPlan)).bind fun aC=>(bif decide ((ErrM.code aC)=4) then some (decide ((ErrM.place aC)=1)) else some false))
noncomputable def Hx (aC : GPlan) : Bool → Option Bool:=fun aF=>(bif aF then some false else (Zbi aC).bind fun aA=>(Yb aC).bind fun aB=>(((bif (!decide (aA.2=.nil)) then some true else (bif (!decide (aB.2=.nil)) then some true else (bif (!decide (aA.1.Procs.length=2)) then some true else (bif (!decide (aA.1.Ready.length=1)) then some true else (bif (!decide (aA.1.Pages.length=2)) then some true else (aA.1.Pages[0]?).bind fun aD=>(rdV aD.Data 1).bind fun aE=>(bif (!decide ((aE.toNat : Int)=98)) then some true else (bif (!decide (aB.1.length=69)) then some true else chk (0 ≤ (15 : Int) ∧ (15 : Int) ≤ aB.1.length) (some (!decide ((Za6 (aB.1.take (15 : Int).toNat))=⟨#[70,80,76,78,0,1,0,0,0,69,0,0,0,3,1]⟩))))))))))) : Option Bool).bind (fun p=>(Hw aC) p))
noncomputable def Tq : Option Bool:=(Za0).bind fun aA=>(Zan aA).bind fun aB=>(((Kz aA).bind fun aC=>(bif (!decide (aC=.nil)) then some true else (bif (!decide (aB.2=.nil)) then some true else some (!decide (aB.1=363))))) : Option Bool).bind (fun p=>(Hx aA) p)
noncomputable def Zba (a0 : GPlan) : Option GPlan:=chk ((([] : List GPagePlan).length + a0.Pages.length) * 24 ≤ 140737488355328) (chk ((([] : List GProcPlan).length + a0.Procs.length) * 24 ≤ 140737488355328) (chk ((([] : List GPortPlan).length + a0.Ports.length) * 32 ≤ 140737488355328) (chk ((([] : List Int).length + a0.Sems.length) * 8 ≤ 140737488355328) (some (⟨a0.Id,a0.Mobile,(([] : List GPagePlan) ++ a0.Pages),(([] : List GProcPlan) ++ a0.Procs),(([] : List GPortPlan) ++ a0.Ports),a0.Events,(([] : List Int) ++ a0.Sems)⟩ : GPlan)))))
noncomputable def Tr (a0 : List UInt8) (a1 : List UInt8) : Option Bool:=some (decide ((Za6 a0)=(Za6 a1)))
noncomputable def Zab (a0 : List UInt8) : Option (List UInt8 × ErrM):=(bif decide (a0.length < 4) then some (([] : List UInt8),(.v Vb)) else chk (0 ≤ (IntKind.i64.wrap (((a0.length : Nat) : Int) - 4)) ∧ (IntKind.i64.wrap (((a0.length : Nat) : Int) - 4)) ≤ a0.length) (chk (0 ≤ (((a0.take (IntKind.i64.wrap (((a0.length : Nat) : Int) - 4)).toNat).length : Nat) : Int) ∧ (((a0.take (IntKind.i64.wrap (((a0.length : Nat) : Int) - 4)).toNat).length : Nat) : Int) ≤ ((a0.length : Nat) : Int) ∧ ((a0.length : Nat) : Int) ≤ ((a0.length : Nat) : Int)) ((Zbg (a0.take (IntKind.i64.wrap (((a0.length : Nat) : Int) - 4)).toNat)).bind fun aA=>(Za8 aA).bind fun aB=>(Tr aB ((a0.drop (((a0.take (IntKind.i64.wrap (((a0.length : Nat) : Int) - 4)).toNat).length : Nat) : Int).toNat).take (((a0.length : Nat) : Int).toNat - (((a0.take (IntKind.i64.wrap (((a0.length : Nat) : Int) - 4)).toNat).length : Nat) : Int).toNat))).bind fun aC=>(bif (!aC) then some (([] : List UInt8),(.v gSum)) else (Ua (a0.take (IntKind.i64.wrap (((a0.length : Nat) : Int) - 4)).toNat)).bind fun aD=>some (aD,.nil)))))
structure GWireCursor where
  b_ : List UInt8
  at_ : Int
  bound_ : Int
  deriving DecidableEq
def Zgs (w : World) (cs : List Value) (x : GWireCursor) : Prop:=∃ v0,cs=[v0,.int .i64 x.at_,.int .i64 x.bound_] ∧ SlR w 1 (Zq eB) v0 x.b_
theorem Zgs.mono : Zkr Zgs:=by
  intro w w' cs x e h
  obtain⟨v0,rfl,h0⟩:=h
  exact⟨v0,rfl,h0.agr (Zq.mono _) e⟩
noncomputable def Zbj (a0 : List UInt8) : Option GWireCursor:=(Xl a0).bind fun aA=>some (⟨aA,0,((a0.length : Nat) : Int)⟩ : GWireCursor)
noncomputable def Qs (a0 : GWireCursor) : Option (Int × GWireCursor):=some ((IntKind.i64.wrap (a0.bound_ - a0.at_)),(⟨a0.b_,a0.at_,a0.bound_⟩ : GWireCursor))
noncomputable def Xf (a0 : GWireCursor) (a1 : Int) : Option (List UInt8 × ErrM × GWireCursor):=(bif decide (a1 < 0) then some (([] : List UInt8),(.v gArg),(⟨a0.b_,a0.at_,a0.bound_⟩ : GWireCursor)) else (Qs (⟨a0.b_,a0.at_,a0.bound_⟩ : GWireCursor)).bind fun aA=>(bif decide (aA.1 < a1) then (Ya aA.2.at_ (.v Vb)).bind fun aB=>some (([] : List UInt8),aB,(⟨a0.b_,aA.2.at_,aA.2.bound_⟩ : GWireCursor)) else chk (0 ≤ aA.2.at_ ∧ aA.2.at_ ≤ (IntKind.i64.wrap (aA.2.at_ + a1)) ∧ (IntKind.i64.wrap (aA.2.at_ + a1)) ≤ ((a0.b_.length : Nat) : Int)) ((Xl ((a0.b_.drop aA.2.at_.toNat).take ((IntKind.i64.wrap (aA.2.at_ + a1)).toNat - aA.2.at_.toNat))).bind fun aC=>some (aC,.nil,(⟨a0.b_,(IntKind.i64.wrap (aA.2.at_ + a1)),aA.2.bound_⟩ : GWireCursor)))))
noncomputable def Xk (a0 : GWireCursor) (a1 : Int) (a2 : Int) : (Int × Nat) → Option ((Int × Nat) ⊕ Int):=fun (aB,aA)=>(bif decide (aA < ((a0.b_.drop (IntKind.i64.wrap (a0.at_ + a1)).toNat).take ((IntKind.i64.wrap ((IntKind.i64.wrap (a0.at_ + a1)) + a2)).toNat - (IntKind.i64.wrap (a0.at_ + a1)).toNat)).length) then (((a0.b_.drop (IntKind.i64.wrap (a0.at_ + a1)).toNat).take ((IntKind.i64.wrap ((IntKind.i64.wrap (a0.at_ + a1)) + a2)).toNat - (IntKind.i64.wrap (a0.at_ + a1)).toNat))[aA]?).bind fun aC=>some (.inl ((bitOr .i64 (shL .i64 aB 8) (aC.toNat : Int)),aA + 1)) else some (.inr aB))
noncomputable def Xj (a0 : GWireCursor) (a1 : Int) (a2 : Int) : Option (Int × GWireCursor):=chk (0 ≤ (IntKind.i64.wrap (a0.at_ + a1)) ∧ (IntKind.i64.wrap (a0.at_ + a1)) ≤ (IntKind.i64.wrap ((IntKind.i64.wrap (a0.at_ + a1)) + a2)) ∧ (IntKind.i64.wrap ((IntKind.i64.wrap (a0.at_ + a1)) + a2)) ≤ ((a0.b_.length : Nat) : Int)) ((Vj (Xk a0 a1 a2) (0,0)).bind (fun aA=>some (aA,(⟨a0.b_,a0.at_,a0.bound_⟩ : GWireCursor))))
noncomputable def Ql (a0 : GWireCursor) (a1 : Int) (a2 : Int) (a3 : Int) : Option (Int × ErrM × GWireCursor):=(bif (((!decide (a1=1)) && (!decide (a1=2))) && (!decide (a1=4))) then some (0,(.v gArg),(⟨a0.b_,a0.at_,a0.bound_⟩ : GWireCursor)) else (Qs (⟨a0.b_,a0.at_,a0.bound_⟩ : GWireCursor)).bind fun aB=>(bif decide (aB.1 < a1) then (Ya aB.2.at_ (.v Vb)).bind fun aC=>some (0,aC,(⟨a0.b_,aB.2.at_,aB.2.bound_⟩ : GWireCursor)) else (Xj (⟨a0.b_,aB.2.at_,aB.2.bound_⟩ : GWireCursor) 0 a1).bind fun aA=>(bif (decide (aA.1 < a2) || decide (a3 < aA.1)) then (Ya aA.2.at_ (.v Kl)).bind fun aD=>some (0,aD,(⟨a0.b_,aA.2.at_,aA.2.bound_⟩ : GWireCursor)) else some (aA.1,.nil,(⟨a0.b_,(IntKind.i64.wrap (aA.2.at_ + a1)),aA.2.bound_⟩ : GWireCursor)))))
noncomputable def Ku (a0 : GWireCursor) : Option (Int × ErrM × GWireCursor):=(Kq 4).bind fun aB=>(Ql (⟨a0.b_,a0.at_,a0.bound_⟩ : GWireCursor) 4 0 aB).bind fun aA=>some (aA.1,aA.2.1,(⟨a0.b_,aA.2.2.at_,aA.2.2.bound_⟩ : GWireCursor))
noncomputable def Yg (a0 : GWireCursor) : Option (Bool × ErrM × GWireCursor):=(Ql (⟨a0.b_,a0.at_,a0.bound_⟩ : GWireCursor) 1 0 1).bind fun aA=>some (decide (aA.1=1),aA.2.1,(⟨a0.b_,aA.2.2.at_,aA.2.2.bound_⟩ : GWireCursor))
noncomputable def Yh (a0 : GWireCursor) : Option (Int × Int × ErrM × GWireCursor):=(Qs (⟨a0.b_,a0.at_,a0.bound_⟩ : GWireCursor)).bind fun aA=>(bif decide (aA.1 < 3) then (Ya aA.2.at_ (.v Vb)).bind fun aD=>some (0,0,aD,(⟨a0.b_,aA.2.at_,aA.2.bound_⟩ : GWireCursor)) else (Xj (⟨a0.b_,aA.2.at_,aA.2.bound_⟩ : GWireCursor) 0 1).bind fun aB=>(Xj (⟨a0.b_,aB.2.at_,aB.2.bound_⟩ : GWireCursor) 1 2).bind fun aC=>some (aB.1,aC.1,.nil,(⟨a0.b_,aC.2.at_,aC.2.bound_⟩ : GWireCursor)))
noncomputable def Kv (a0 : GWireCursor) (a1 : Int) : Option (Option GWireCursor × ErrM × GWireCursor):=(Qs (⟨a0.b_,a0.at_,a0.bound_⟩ : GWireCursor)).bind fun aA=>(bif decide ((IntKind.i64.wrap (aA.1 - 3)) < a1) then (Ya (IntKind.i64.wrap (aA.2.at_ + 1)) (.v Vv)).bind fun aB=>some (none,aB,(⟨a0.b_,aA.2.at_,aA.2.bound_⟩ : GWireCursor)) else some (some (⟨a0.b_,(IntKind.i64.wrap (aA.2.at_ + 3)),(IntKind.i64.wrap ((IntKind.i64.wrap (aA.2.at_ + 3)) + a1))⟩ : GWireCursor),.nil,(⟨a0.b_,(IntKind.i64.wrap ((IntKind.i64.wrap (aA.2.at_ + 3)) + a1)),aA.2.bound_⟩ : GWireCursor)))
noncomputable def Jj (a0 : GWireCursor) : Option (Int × Option GWireCursor × ErrM × GWireCursor):=(Yh (⟨a0.b_,a0.at_,a0.bound_⟩ : GWireCursor)).bind fun aA=>(bif (!decide (aA.2.2.1=.nil)) then some (0,none,aA.2.2.1,(⟨a0.b_,aA.2.2.2.at_,aA.2.2.2.bound_⟩ : GWireCursor)) else (bif decide (aA.1=0) then (Ya aA.2.2.2.at_ (.v Zoj)).bind fun aC=>some (0,none,aC,(⟨a0.b_,aA.2.2.2.at_,aA.2.2.2.bound_⟩ : GWireCursor)) else (Kv (⟨a0.b_,aA.2.2.2.at_,aA.2.2.2.bound_⟩ : GWireCursor) aA.2.1).bind fun aB=>(bif (!decide (aB.2.1=.nil)) then some (0,none,aB.2.1,(⟨a0.b_,aB.2.2.at_,aB.2.2.bound_⟩ : GWireCursor)) else some (aA.1,aB.1,.nil,(⟨a0.b_,aB.2.2.at_,aB.2.2.bound_⟩ : GWireCursor)))))
noncomputable def Xp (a0 : GWireCursor) : Option (Int × ErrM × GWireCursor):=(Kq 1).bind fun aB=>(Ql (⟨a0.b_,a0.at_,a0.bound_⟩ : GWireCursor) 1 0 aB).bind fun aA=>some (aA.1,aA.2.1,(⟨a0.b_,aA.2.2.at_,aA.2.2.bound_⟩ : GWireCursor))
noncomputable def Gm (a0 : GWireCursor) : Option (GPagePlan × ErrM × GWireCursor):=(Xp (⟨a0.b_,a0.at_,a0.bound_⟩ : GWireCursor)).bind fun aA=>(bif (!decide (aA.2.1=.nil)) then some ((⟨0,⟨#[]⟩⟩ : GPagePlan),aA.2.1,(⟨a0.b_,aA.2.2.at_,aA.2.2.bound_⟩ : GWireCursor)) else (Qs (⟨a0.b_,aA.2.2.at_,aA.2.2.bound_⟩ : GWireCursor)).bind fun aC=>(Xf (⟨a0.b_,aC.2.at_,aC.2.bound_⟩ : GWireCursor) aC.1).bind fun aB=>some ((⟨aA.1,(Za6 aB.1)⟩ : GPagePlan),aB.2.1,(⟨a0.b_,aB.2.2.at_,aB.2.2.bound_⟩ : GWireCursor)))
noncomputable def Jo (a0 : List (Value × ErrM)) : Nat → Option (Nat ⊕ (Unit ⊕ (Value × ErrM))):=fun aA=>(bif decide (aA < a0.length) then (a0[aA]?).bind fun aB=>(bif (!decide (aB.2=.nil)) then some (.inr (.inr (aB.1,aB.2))) else some (.inl (aA + 1))) else some (.inr (.inl ())))
noncomputable def Zdw (a0 : List (Value × ErrM)) : Option (Value × ErrM):=(Vj (Jo a0) 0).bind (fun q=>match q with | .inl _=>some (.nilIface,.nil) | .inr p=>some p)
noncomputable def Jt (a0 : GWireCursor) : Option (ErrM × GWireCursor):=(Qs (⟨a0.b_,a0.at_,a0.bound_⟩ : GWireCursor)).bind fun aA=>(bif decide (0 < aA.1) then (Ya aA.2.at_ (.v Zoi)).bind fun aB=>some (aB,(⟨a0.b_,aA.2.at_,aA.2.bound_⟩ : GWireCursor)) else some (.nil,(⟨a0.b_,aA.2.at_,aA.2.bound_⟩ : GWireCursor)))
noncomputable def Hy (a0 : GWireCursor) : Option (GProcPlan × ErrM × GWireCursor):=(Ku (⟨a0.b_,a0.at_,a0.bound_⟩ : GWireCursor)).bind fun aA=>(Xp (⟨a0.b_,aA.2.2.at_,aA.2.2.bound_⟩ : GWireCursor)).bind fun aB=>(Yg (⟨a0.b_,aB.2.2.at_,aB.2.2.bound_⟩ : GWireCursor)).bind fun aC=>(Jt (⟨a0.b_,aC.2.2.at_,aC.2.2.bound_⟩ : GWireCursor)).bind fun aD=>some ((⟨aA.1,aB.1,aC.1⟩ : GProcPlan),(Zg1 [aA.2.1,aB.2.1,aC.2.1,aD.1]),(⟨a0.b_,aD.2.at_,aD.2.bound_⟩ : GWireCursor))
noncomputable def Ub (a0 : GWireCursor) : Option (GPortPlan × ErrM × GWireCursor):=(Xp (⟨a0.b_,a0.at_,a0.bound_⟩ : GWireCursor)).bind fun aA=>(Xp (⟨a0.b_,aA.2.2.at_,aA.2.2.bound_⟩ : GWireCursor)).bind fun aB=>(Xp (⟨a0.b_,aB.2.2.at_,aB.2.2.bound_⟩ : GWireCursor)).bind fun aC=>(Xp (⟨a0.b_,aC.2.2.at_,aC.2.2.bound_⟩ : GWireCursor)).bind fun aD=>(Jt (⟨a0.b_,aD.2.2.at_,aD.2.2.bound_⟩ : GWireCursor)).bind fun aE=>some ((⟨aA.1,aB.1,aC.1,aD.1⟩ : GPortPlan),(Zg1 [aA.2.1,aB.2.1,aC.2.1,aD.2.1,aE.1]),(⟨a0.b_,aE.2.at_,aE.2.bound_⟩ : GWireCursor))
noncomputable def Uc (aC : List UInt8 × ErrM × GWireCursor) : (Nat × List Int) → Option ((Nat × List Int) ⊕ (List Int)):=fun (aA,aB)=>(bif decide (aA < aC.1.length) then (aC.1[aA]?).bind fun aD=>chk ((aB.length + [(aD.toNat : Int)].length) * 8 ≤ 140737488355328) (some (.inl (aA + 1,(aB ++ [(aD.toNat : Int)])))) else some (.inr aB))
noncomputable def Ju (a0 : GPlan) (a1 : Int) (a2 : GWireCursor) : Option (ErrM × GPlan × GWireCursor):=(bif decide (a1=1) then (Gm (⟨a2.b_,a2.at_,a2.bound_⟩ : GWireCursor)).bind fun aC=>chk ((a0.Pages.length + [aC.1].length) * 24 ≤ 140737488355328) (some (aC.2.1,(⟨a0.Id,a0.Mobile,(a0.Pages ++ [aC.1]),a0.Procs,a0.Ports,a0.Events,a0.Sems⟩ : GPlan),(⟨a2.b_,aC.2.2.at_,aC.2.2.bound_⟩ : GWireCursor))) else (bif decide (a1=2) then (Hy (⟨a2.b_,a2.at_,a2.bound_⟩ : GWireCursor)).bind fun aD=>chk ((a0.Procs.length + [aD.1].length) * 24 ≤ 140737488355328) (some (aD.2.1,(⟨a0.Id,a0.Mobile,a0.Pages,(a0.Procs ++ [aD.1]),a0.Ports,a0.Events,a0.Sems⟩ : GPlan),(⟨a2.b_,aD.2.2.at_,aD.2.2.bound_⟩ : GWireCursor))) else (bif decide (a1=3) then (Ub (⟨a2.b_,a2.at_,a2.bound_⟩ : GWireCursor)).bind fun aE=>chk ((a0.Ports.length + [aE.1].length) * 32 ≤ 140737488355328) (some (aE.2.1,(⟨a0.Id,a0.Mobile,a0.Pages,a0.Procs,(a0.Ports ++ [aE.1]),a0.Events,a0.Sems⟩ : GPlan),(⟨a2.b_,aE.2.2.at_,aE.2.2.bound_⟩ : GWireCursor))) else (bif decide (a1=4) then (Xp (⟨a2.b_,a2.at_,a2.bound_⟩ : GWireCursor)).bind fun aA=>(Jt (⟨a2.b_,aA.2.2.at_,aA.2.2.bound_⟩ : GWireCursor)).bind fun aF=>some ((Zg1 [aA.2.1,aF.1]),(⟨a0.Id,a0.Mobile,a0.Pages,a0.Procs,a0.Ports,aA.1,a0.Sems⟩ : GPlan),(⟨a2.b_,aF.2.at_,aF.2.bound_⟩ : GWireCursor)) else (bif decide (a1=5) then (Qs (⟨a2.b_,a2.at_,a2.bound_⟩ : GWireCursor)).bind fun aG=>(Xf (⟨a2.b_,aG.2.at_,aG.2.bound_⟩ : GWireCursor) aG.1).bind fun aB=>(Vj (Uc aB) (0,a0.Sems)).bind (fun aH=>some (aB.2.1,(⟨a0.Id,a0.Mobile,a0.Pages,a0.Procs,a0.Ports,a0.Events,aH⟩ : GPlan),(⟨a2.b_,aB.2.2.at_,aB.2.2.bound_⟩ : GWireCursor))) else some ((.v Zoj),(⟨a0.Id,a0.Mobile,a0.Pages,a0.Procs,a0.Ports,a0.Events,a0.Sems⟩ : GPlan),(⟨a2.b_,a2.at_,a2.bound_⟩ : GWireCursor)))))))
noncomputable def Jm (a0 : List UInt8) (a1 : List UInt8) : Nat → Option (Nat ⊕ (Unit ⊕ Bool)):=fun aA=>(bif decide (aA < a0.length) then (a0[aA]?).bind fun aB=>(a1[aA]?).bind fun aC=>(bif (!decide ((aB.toNat : Int)=(aC.toNat : Int))) then some (.inr (.inr false)) else some (.inl (aA + 1))) else some (.inr (.inl ())))
noncomputable def Jq (a0 : List UInt8) (a1 : List UInt8) : Option Bool:=(bif (!decide (a0.length=a1.length)) then some false else (Vj (Jm a0 a1) 0).bind (fun q=>match q with | .inl _=>some true | .inr p=>some p))
noncomputable def Yt (aB : Int) (aC : Bool) (aD : List GPagePlan) (aE : List GProcPlan) (aF : List GPortPlan) (aG : Int) (aH : List Int) : Bool → Option (GPlan × ErrM):=fun aA=>(bif aA then some ((⟨0,false,([] : List GPagePlan),([] : List GProcPlan),([] : List GPortPlan),0,([] : List Int)⟩ : GPlan),(.v Hr)) else some ((⟨aB,aC,aD,aE,aF,aG,aH⟩ : GPlan),.nil))
noncomputable def Vy (aK : GWireCursor) (aL : ErrM) (aC : Int) (aD : Bool) (aE : List GPagePlan) (aF : List GProcPlan) (aG : List GPortPlan) (aH : Int) (aI : List Int) : (Bool × Int × Int) → Option ((ErrM × Int × Int × Int × Bool × List GPagePlan × List GProcPlan × List GPortPlan × Int × List Int) ⊕ (ErrM × Int × Bool × List GPagePlan × List GProcPlan × List GPortPlan × Int × List Int)):=fun (aM,aN,aO)=>(bif aM then (Jj (⟨aK.b_,aN,aO⟩ : GWireCursor)).bind fun aA=>(bif decide (aA.2.2.1=.nil) then (aA.2.1).bind fun aJ=>(Ju (⟨aC,aD,aE,aF,aG,aH,aI⟩ : GPlan) aA.1 (⟨aK.b_,aJ.at_,aJ.bound_⟩ : GWireCursor)).bind fun aB=>some (.inl (aB.1,aA.2.2.2.at_,aA.2.2.2.bound_,aB.2.1.Id,aB.2.1.Mobile,aB.2.1.Pages,aB.2.1.Procs,aB.2.1.Ports,aB.2.1.Events,aB.2.1.Sems)) else some (.inl (aA.2.2.1,aA.2.2.2.at_,aA.2.2.2.bound_,aC,aD,aE,aF,aG,aH,aI))) else some (.inr (aL,aC,aD,aE,aF,aG,aH,aI)))
noncomputable def Qt (aE : GWireCursor) : (ErrM × Int × Int × Int × Bool × List GPagePlan × List GProcPlan × List GPortPlan × Int × List Int) → Option ((ErrM × Int × Int × Int × Bool × List GPagePlan × List GProcPlan × List GPortPlan × Int × List Int) ⊕ (ErrM × Int × Bool × List GPagePlan × List GProcPlan × List GPortPlan × Int × List Int)):=fun (aB,aC,aD,aF,aG,aH,aI,aJ,aK,aL)=>(((bif decide (aB=.nil) then (Qs (⟨aE.b_,aC,aD⟩ : GWireCursor)).bind fun aA=>some (decide (0 < aA.1),aA.2.at_,aA.2.bound_) else some (false,aC,aD))) : Option (Bool × Int × Int)).bind (fun p=>(Vy aE aB aF aG aH aI aJ aK aL) p)
noncomputable def Jh (a0 : List UInt8) : Option (GPlan × ErrM):=(Zab a0).bind fun aB=>(bif (!decide (aB.2=.nil)) then some ((⟨0,false,([] : List GPagePlan),([] : List GProcPlan),([] : List GPortPlan),0,([] : List Int)⟩ : GPlan),aB.2) else (bif decide (aB.1.length < 15) then some ((⟨0,false,([] : List GPagePlan),([] : List GProcPlan),([] : List GPortPlan),0,([] : List Int)⟩ : GPlan),(.v Vb)) else chk (0 ≤ (6 : Int) ∧ (6 : Int) ≤ aB.1.length) ((bif (!decide ((Za6 (aB.1.take (6 : Int).toNat))=⟨#[70,80,76,78,0,1]⟩)) then some ((⟨0,false,([] : List GPagePlan),([] : List GProcPlan),([] : List GPortPlan),0,([] : List Int)⟩ : GPlan),(.v Zin)) else (Zbj aB.1).bind fun aA=>(Xf (⟨aA.b_,aA.at_,aA.bound_⟩ : GWireCursor) 6).bind fun aO=>(Ku (⟨aA.b_,aO.2.2.at_,aO.2.2.bound_⟩ : GWireCursor)).bind fun aE=>(bif (!decide (aE.1=((a0.length : Nat) : Int))) then some ((⟨0,false,([] : List GPagePlan),([] : List GProcPlan),([] : List GPortPlan),0,([] : List Int)⟩ : GPlan),(.v Vv)) else (Ku (⟨aA.b_,aE.2.2.at_,aE.2.2.bound_⟩ : GWireCursor)).bind fun aD=>(Yg (⟨aA.b_,aD.2.2.at_,aD.2.2.bound_⟩ : GWireCursor)).bind fun aC=>(Vj (Qt aA) (aC.2.1,aC.2.2.at_,aC.2.2.bound_,aD.1,aC.1,([] : List GPagePlan),([] : List GProcPlan),([] : List GPortPlan),0,([] : List Int))).bind (fun (aP,aF,aG,aH,aI,aJ,aK,aL)=>(bif (!decide (aP=.nil)) then some ((⟨0,false,([] : List GPagePlan),([] : List GProcPlan),([] : List GPortPlan),0,([] : List Int)⟩ : GPlan),(.v Hr)) else (Yb (⟨aF,aG,aH,aI,aJ,aK,aL⟩ : GPlan)).bind fun aM=>(((bif (!decide (aM.2=.nil)) then some true else (Jq aM.1 a0).bind fun aN=>some (!aN))) : Option Bool).bind (fun p=>(Yt aF aG aH aI aJ aK aL) p))))))))
structure GR10Err where
  Code : Int
  Place : Int
  deriving DecidableEq
def Za1 (x : GR10Err) : List Value:=[.int .i64 x.Code,.int .i64 x.Place]
noncomputable def Vp (a0 : Int) : Option GR10Err:=some (⟨a0,(-1)⟩ : GR10Err)
noncomputable def Vl : Option GR10Err:=some (⟨0,(-1)⟩ : GR10Err)
noncomputable def Ts (a0 : GPlan) (aA : Nat) : Bool → Option (Nat ⊕ (Unit ⊕ GR10Err)):=fun aB=>(bif aB then some (.inr (.inr (⟨4,((aA : Nat) : Int)⟩ : GR10Err))) else (a0.Pages[aA]?).bind fun aC=>(bif decide (64 < aC.Init.size) then some (.inr (.inr (⟨5,((aA : Nat) : Int)⟩ : GR10Err))) else some (.inl (aA + 1))))
noncomputable def Wo (a0 : GPlan) : Nat → Option (Nat ⊕ (Unit ⊕ GR10Err)):=fun aA=>(bif decide (aA < a0.Pages.length) then (((a0.Pages[aA]?).bind fun aB=>(bif decide (aB.Rights < 0) then some true else (a0.Pages[aA]?).bind fun aC=>some (decide (7 < aC.Rights)))) : Option Bool).bind (fun p=>(Ts a0 aA) p) else some (.inr (.inl ())))
noncomputable def Zbk (a0 : GPlan) : Option GR10Err:=(bif (decide (a0.Pages.length < 1) || decide (32 < a0.Pages.length)) then (Vp 11).bind fun aB=>some aB else (Vj (Wo a0) 0).bind (fun q=>match q with | .inl _=>(Vl).bind fun aA=>some aA | .inr p=>some p))
noncomputable def Zai (aA : Nat) : Bool → Option (Nat ⊕ (Unit ⊕ GR10Err)):=fun aB=>(bif aB then some (.inr (.inr (⟨4,((aA : Nat) : Int)⟩ : GR10Err))) else some (.inl (aA + 1)))
noncomputable def Uw (a0 : GPlan) : Nat → Option (Nat ⊕ (Unit ⊕ GR10Err)):=fun aB=>(bif decide (aB < a0.Procs.length) then (a0.Procs[aB]?).bind fun aA=>(((bif decide (aA.Entry < 0) then some true else (bif (!decide ((Int.tmod aA.Entry 4)=0)) then some true else (bif decide ((IntKind.i64.wrap (64 * ((a0.Pages.length : Nat) : Int))) ≤ aA.Entry) then some true else (bif decide (aA.Prio < 0) then some true else some (decide (255 < aA.Prio))))))) : Option Bool).bind (fun p=>(Zai aB) p) else some (.inr (.inl ())))
noncomputable def Zbl (a0 : GPlan) : Option GR10Err:=(bif (decide (a0.Procs.length < 1) || decide (8 < a0.Procs.length)) then (Vp 11).bind fun aB=>some aB else (Vj (Uw a0) 0).bind (fun q=>match q with | .inl _=>(Vl).bind fun aA=>some aA | .inr p=>some p))
noncomputable def Wp (a0 : GPortPlan) : Option Int:=(bif (decide (a0.Kind < 1) || decide (4 < a0.Kind)) then some 7 else (bif (decide (a0.Size < 1) || decide (32 < a0.Size)) then some 11 else (bif ((decide (a0.Depth < 1) || decide (8 < a0.Depth)) || ((!(decide (3 ≤ a0.Kind))) && (!decide (a0.Depth=1)))) then some 4 else (bif ((decide (a0.Refresh < 0) || decide (255 < a0.Refresh)) || ((!decide (a0.Kind=1)) && (!decide (a0.Refresh=0)))) then some 4 else some 0))))
noncomputable def Ux (a0 : GPlan) : Nat → Option (Nat ⊕ (Unit ⊕ GR10Err)):=fun aA=>(bif decide (aA < a0.Ports.length) then (a0.Ports[aA]?).bind fun aC=>(Wp aC).bind fun aB=>(bif (!decide (aB=0)) then some (.inr (.inr (⟨aB,((aA : Nat) : Int)⟩ : GR10Err))) else some (.inl (aA + 1))) else some (.inr (.inl ())))
noncomputable def Zbm (a0 : GPlan) : Option GR10Err:=(bif decide (8 < a0.Ports.length) then (Vp 11).bind fun aA=>some aA else (Vj (Ux a0) 0).bind (fun q=>match q with | .inl _=>(Vl).bind fun aB=>some aB | .inr p=>some p))
noncomputable def Tt (aA : Nat) : Bool → Option (Nat ⊕ (Unit ⊕ GR10Err)):=fun aB=>(bif aB then some (.inr (.inr (⟨4,((aA : Nat) : Int)⟩ : GR10Err))) else some (.inl (aA + 1)))
noncomputable def Wq (a0 : GPlan) : Nat → Option (Nat ⊕ (Unit ⊕ GR10Err)):=fun aA=>(bif decide (aA < a0.Sems.length) then (((a0.Sems[aA]?).bind fun aB=>(bif decide (aB < 0) then some true else (a0.Sems[aA]?).bind fun aC=>some (decide (255 < aC)))) : Option Bool).bind (fun p=>(Tt aA) p) else some (.inr (.inl ())))
noncomputable def Zao (a0 : GPlan) : Option GR10Err:=(bif (decide (a0.Events < 0) || decide (8 < a0.Events)) then (Vp 4).bind fun aB=>some aB else (bif decide (8 < a0.Sems.length) then (Vp 11).bind fun aC=>some aC else (Vj (Wq a0) 0).bind (fun q=>match q with | .inl _=>(Vl).bind fun aA=>some aA | .inr p=>some p)))
noncomputable def Zcu (a0 : GPortPlan) : Option (Int × Int):=(Wp a0).bind fun aA=>(bif (!decide (aA=0)) then some (0,8) else (bif decide (a0.Kind=1) then some ((IntKind.i64.wrap (3 + a0.Size)),0) else (bif decide (a0.Kind=3) then some ((IntKind.i64.wrap (2 + (IntKind.i64.wrap (a0.Depth * (IntKind.i64.wrap (1 + a0.Size)))))),0) else some (2,0))))
noncomputable def Uy (a0 : GPlan) : (Int × Nat) → Option ((Int × Nat) ⊕ Int):=fun (aB,aA)=>(bif decide (aA < a0.Ports.length) then (a0.Ports[aA]?).bind fun aC=>(Zcu aC).bind fun aD=>some (.inl ((IntKind.i64.wrap (aB + (IntKind.i64.wrap (3 + aD.1)))),aA + 1)) else some (.inr aB))
noncomputable def Zbn (a0 : GPlan) : Option Int:=(Vj (Uy a0) ((IntKind.i64.wrap ((IntKind.i64.wrap ((IntKind.i64.wrap ((IntKind.i64.wrap (58 + (IntKind.i64.wrap (76 * ((a0.Procs.length : Nat) : Int))))) + (IntKind.i64.wrap (68 * ((a0.Pages.length : Nat) : Int))))) + a0.Events)) + ((a0.Sems.length : Nat) : Int))),0)).bind (fun aA=>some aA)
noncomputable def Vz (aB : GR10Err) (aC : GR10Err) (aD : GR10Err) (aE : GR10Err) : Nat → Option (Nat ⊕ (Unit ⊕ GR10Err)):=fun aA=>(bif decide (aA < [aB,aC,aD,aE].length) then ([aB,aC,aD,aE][aA]?).bind fun aF=>(bif (!decide (aF.Code=0)) then ([aB,aC,aD,aE][aA]?).bind fun aG=>some (.inr (.inr aG)) else some (.inl (aA + 1))) else some (.inr (.inl ())))
noncomputable def Zbo (a0 : GPlan) : Option GR10Err:=(bif (decide (a0.Id < 0) || decide (2147483647 < a0.Id)) then (Vp 4).bind fun aA=>some aA else (Zbk a0).bind fun aB=>(Zbl a0).bind fun aC=>(Zbm a0).bind fun aD=>(Zao a0).bind fun aE=>(Vj (Vz aB aC aD aE) 0).bind (fun q=>match q with | .inl _=>(Zbn a0).bind fun aF=>(bif decide (4096 < aF) then (Vp 11).bind fun aG=>some aG else (Vl).bind fun aH=>some aH) | .inr p=>some p))
noncomputable def Zcv (a0 : GPlan) : Option Bool:=(Zbo a0).bind fun aA=>some (decide (aA.Code=0))
structure GR02Err where
  Code : Int
  Place : Int
  deriving DecidableEq
def Zfj (x : GR02Err) : List Value:=[.int .i64 x.Code,.int .i64 x.Place]
noncomputable def Uz : Option GR02Err:=some (⟨0,(-1)⟩ : GR02Err)
structure GR02Writer where
  B : List UInt8
  Err : GR02Err
  deriving DecidableEq
def Zhq (w : World) (cs : List Value) (x : GR02Writer) : Prop:=∃ v0,cs=[v0,.int .i64 x.Err.Code,.int .i64 x.Err.Place] ∧ SlR w 1 (Zq eB) v0 x.B
theorem Zhq.mono : Zkr Zhq:=by
  intro w w' cs x e h
  obtain⟨v0,rfl,h0⟩:=h
  exact⟨v0,rfl,h0.agr (Zq.mono _) e⟩
noncomputable def Zcw : Option GR02Writer:=(Uz).bind fun aA=>some (⟨([] : List UInt8),aA⟩ : GR02Writer)
noncomputable def Wr : (Int × List UInt8 × Int) → Option ((Int × List UInt8 × Int) ⊕ (List UInt8)):=fun (aC,aB,aA)=>(bif decide (0 ≤ aA) then (rdI aB aA).bind fun aD=>some (.inl ((IntKind.i64.wrap (Int.tdiv aC 256)),(aB.set aA.toNat (Zt (Int.tmod aC 256))),(IntKind.i64.wrap (aA - 1)))) else some (.inr aB))
noncomputable def Vq (a0 : Int) (a1 : Int) : Option (List UInt8):=chk (0 ≤ a1) (chk (a1.toNat * 1 ≤ 140737488355328) ((Vj Wr (a0,(List.replicate a1.toNat (Zt 0)),(IntKind.i64.wrap (a1 - 1)))).bind (fun aA=>some aA)))
noncomputable def Jb (a0 : GR02Writer) (a1 : List UInt8) (a2 : Int) : Option GR02Writer:=(bif (!decide (a0.Err.Code=0)) then some (⟨a0.B,a0.Err⟩ : GR02Writer) else (bif (!decide (a2=0)) then some (⟨a0.B,(⟨a2,((a0.B.length : Nat) : Int)⟩ : GR02Err)⟩ : GR02Writer) else chk ((a0.B.length + a1.length) * 1 ≤ 140737488355328) (some (⟨(a0.B ++ a1),a0.Err⟩ : GR02Writer))))
noncomputable def Ga (a0 : Int) : Option Int:=(bif decide (a0=1) then some 255 else (bif decide (a0=2) then some 65535 else (bif decide (a0=4) then some 4294967295 else some (-1))))
noncomputable def Ud (a0 : GR02Writer) (a1 : Int) (a2 : Int) : Bool → Option GR02Writer:=fun aC=>(bif aC then (Jb (⟨a0.B,a0.Err⟩ : GR02Writer) ([] : List UInt8) 4).bind fun aA=>some (⟨aA.B,aA.Err⟩ : GR02Writer) else (Vq a1 a2).bind fun aD=>(Jb (⟨a0.B,a0.Err⟩ : GR02Writer) aD 0).bind fun aB=>some (⟨aB.B,aB.Err⟩ : GR02Writer))
noncomputable def Xd (a0 : GR02Writer) (a1 : Int) (a2 : Int) : Option GR02Writer:=(((bif decide (a1 < 0) then some true else (Ga a2).bind fun aA=>some (decide (aA < a1)))) : Option Bool).bind (fun p=>(Ud a0 a1 a2) p)
noncomputable def Zcx (a0 : Bool) : Option Int:=(bif a0 then some 1 else some 0)
noncomputable def Xm (a0 : GR02Writer) (a1 : Int) (a2 : List UInt8) : Option GR02Writer:=(bif (decide (a1 < 1) || decide (255 < a1)) then (Jb (⟨a0.B,a0.Err⟩ : GR02Writer) ([] : List UInt8) 3).bind fun aB=>some (⟨aB.B,aB.Err⟩ : GR02Writer) else (bif decide (65535 < a2.length) then (Jb (⟨a0.B,a0.Err⟩ : GR02Writer) ([] : List UInt8) 5).bind fun aC=>some (⟨aC.B,aC.Err⟩ : GR02Writer) else (Vq ((a2.length : Nat) : Int) 2).bind fun aA=>chk (([(Zt a1)].length + aA.length) * 1 ≤ 140737488355328) (chk ((([(Zt a1)] ++ aA).length + a2.length) * 1 ≤ 140737488355328) ((Jb (⟨a0.B,a0.Err⟩ : GR02Writer) (([(Zt a1)] ++ aA) ++ a2) 0).bind fun aD=>some (⟨aD.B,aD.Err⟩ : GR02Writer)))))
noncomputable def Ue (a0 : GPlan) : (List UInt8 × Nat) → Option ((List UInt8 × Nat) ⊕ (List UInt8)):=fun (aA,aB)=>(bif decide (aB < a0.Sems.length) then (a0.Sems[aB]?).bind fun aC=>chk ((aA.length + [(Zt aC)].length) * 1 ≤ 140737488355328) (some (.inl ((aA ++ [(Zt aC)]),aB + 1))) else some (.inr aA))
noncomputable def Gz (a0 : GPlan) : (Nat × List UInt8 × GR02Err) → Option ((Nat × List UInt8 × GR02Err) ⊕ (List UInt8 × GR02Err)):=fun (aB,aC,aD)=>(bif decide (aB < a0.Ports.length) then (a0.Ports[aB]?).bind fun aA=>(Xm (⟨aC,aD⟩ : GR02Writer) 3 [(Zt aA.Kind),(Zt aA.Size),(Zt aA.Depth),(Zt aA.Refresh)]).bind fun aE=>some (.inl (aB + 1,aE.B,aE.Err)) else some (.inr (aC,aD)))
noncomputable def Ha (a0 : GPlan) : (Nat × List UInt8 × GR02Err) → Option ((Nat × List UInt8 × GR02Err) ⊕ (List UInt8 × GR02Err)):=fun (aB,aE,aF)=>(bif decide (aB < a0.Procs.length) then (a0.Procs[aB]?).bind fun aA=>(Vq aA.Entry 4).bind fun aG=>(Zcx aA.Auto).bind fun aC=>chk ((aG.length + [(Zt aA.Prio),(Zt aC)].length) * 1 ≤ 140737488355328) ((Xm (⟨aE,aF⟩ : GR02Writer) 2 (aG ++ [(Zt aA.Prio),(Zt aC)])).bind fun aD=>some (.inl (aB + 1,aD.B,aD.Err))) else some (.inr (aE,aF)))
noncomputable def Hb (a0 : GPlan) : (Nat × List UInt8 × GR02Err) → Option ((Nat × List UInt8 × GR02Err) ⊕ (List UInt8 × GR02Err)):=fun (aA,aB,aC)=>(bif decide (aA < a0.Pages.length) then (a0.Pages[aA]?).bind fun aD=>(a0.Pages[aA]?).bind fun aE=>chk (([(Zt aD.Rights)].length + aE.Init.data.toList.length) * 1 ≤ 140737488355328) ((Xm (⟨aB,aC⟩ : GR02Writer) 1 ([(Zt aD.Rights)] ++ aE.Init.data.toList)).bind fun aF=>some (.inl (aA + 1,aF.B,aF.Err))) else some (.inr (aB,aC)))
noncomputable def Zcy (a0 : GPlan) : Option (List UInt8):=(Zcw).bind fun aB=>(Xd (⟨aB.B,aB.Err⟩ : GR02Writer) a0.Id 4).bind fun aC=>(Zcx a0.Mobile).bind fun aI=>(Xd (⟨aC.B,aC.Err⟩ : GR02Writer) aI 1).bind fun aD=>(Vj (Hb a0) (0,aD.B,aD.Err)).bind (fun (aJ,aK)=>(Vj (Ha a0) (0,aJ,aK)).bind (fun (aL,aM)=>(Vj (Gz a0) (0,aL,aM)).bind (fun (aE,aF)=>(Xm (⟨aE,aF⟩ : GR02Writer) 4 [(Zt a0.Events)]).bind fun aA=>(Vj (Ue a0) (([] : List UInt8),0)).bind (fun aG=>(Xm (⟨aA.B,aA.Err⟩ : GR02Writer) 5 aG).bind fun aH=>some aH.B))))
noncomputable def Vm (a0 : GR02Writer) (a1 : List UInt8) : Option GR02Writer:=(Jb (⟨a0.B,a0.Err⟩ : GR02Writer) a1 0).bind fun aA=>some (⟨aA.B,aA.Err⟩ : GR02Writer)
noncomputable def Tu (aB : Nat) : Int → Option ((Int × Nat) ⊕ Int):=fun aA=>some (.inl (aA,aB + 1))
noncomputable def Vr : (Int × Nat) → Option ((Int × Nat) ⊕ Int):=fun (aA,aB)=>(bif decide (aB < 8) then (((bif decide ((Zho .u32 aA 1)=1) then some (Uo .u32 (shR .u32 aA 1) 3988292384) else some (shR .u32 aA 1))) : Option Int).bind (fun p=>(Tu aB) p) else some (.inr aA))
noncomputable def Zcz (a0 : Int) (a1 : Int) : Option Int:=(Vj Vr ((Uo .u32 a0 (IntKind.u32.wrap a1)),0)).bind (fun aA=>some aA)
noncomputable def Gn (a0 : List UInt8) : (Int × Nat) → Option ((Int × Nat) ⊕ Int):=fun (aB,aA)=>(bif decide (aA < a0.length) then (a0[aA]?).bind fun aC=>(Zcz aB (aC.toNat : Int)).bind fun aD=>some (.inl (aD,aA + 1)) else some (.inr aB))
noncomputable def Zbp (a0 : List UInt8) : Option Int:=(Vj (Gn a0) (4294967295,0)).bind (fun aA=>some (Uo .u32 aA 4294967295))
noncomputable def Uf (aC : Int) : (List UInt8 × Nat) → Option ((List UInt8 × Nat) ⊕ (List UInt8)):=fun (aB,aA)=>(bif decide (aA < 4) then chk (0 ≤ (IntKind.i64.wrap (8 * ((aA : Nat) : Int)))) (chk ((aB.length + [(Zt (shR .u32 aC (IntKind.i64.wrap (8 * ((aA : Nat) : Int)))))].length) * 1 ≤ 140737488355328) (some (.inl ((aB ++ [(Zt (shR .u32 aC (IntKind.i64.wrap (8 * ((aA : Nat) : Int)))))]),aA + 1)))) else some (.inr aB))
noncomputable def Zc0 (a0 : List UInt8) : Option (List UInt8):=chk ((([] : List UInt8).length + a0.length) * 1 ≤ 140737488355328) ((Zbp a0).bind fun aA=>(Vj (Uf aA) ((([] : List UInt8) ++ a0),0)).bind (fun aB=>some aB))
noncomputable def Ug (a0 : GPlan) : Option (List UInt8 × Int):=(Zcv a0).bind fun aF=>(bif (!aF) then some (([] : List UInt8),8) else (Zcy a0).bind fun aA=>(Zcw).bind fun aB=>(Vm (⟨aB.B,aB.Err⟩ : GR02Writer) [(Zt 70),(Zt 80),(Zt 76),(Zt 78)]).bind fun aC=>(Xd (⟨aC.B,aC.Err⟩ : GR02Writer) 1 2).bind fun aD=>(Xd (⟨aD.B,aD.Err⟩ : GR02Writer) (IntKind.i64.wrap (((aA.length : Nat) : Int) + 14)) 4).bind fun aE=>(Vm (⟨aE.B,aE.Err⟩ : GR02Writer) aA).bind fun aG=>(Zc0 aG.B).bind fun aH=>some (aH,0))
noncomputable def Hc (a0 : List UInt8) (aB : Int) : Nat → Option (Nat ⊕ (Unit ⊕ (List UInt8 × Int))):=fun aA=>(bif decide (aA < 4) then (rdI a0 (IntKind.i64.wrap ((IntKind.i64.wrap (((a0.length : Nat) : Int) - 4)) + ((aA : Nat) : Int)))).bind fun aC=>chk (0 ≤ (IntKind.i64.wrap (8 * ((aA : Nat) : Int)))) ((bif (!decide ((aC.toNat : Int)=(IntKind.u8.wrap (shR .u32 aB (IntKind.i64.wrap (8 * ((aA : Nat) : Int))))))) then some (.inr (.inr (([] : List UInt8),6))) else some (.inl (aA + 1)))) else some (.inr (.inl ())))
noncomputable def Zac (a0 : List UInt8) : Option (List UInt8 × Int):=(bif decide (a0.length < 4) then some (([] : List UInt8),1) else chk (0 ≤ (IntKind.i64.wrap (((a0.length : Nat) : Int) - 4)) ∧ (IntKind.i64.wrap (((a0.length : Nat) : Int) - 4)) ≤ a0.length) ((Zbp (a0.take (IntKind.i64.wrap (((a0.length : Nat) : Int) - 4)).toNat)).bind fun aA=>(Vj (Hc a0 aA) 0).bind (fun q=>match q with | .inl _=>chk (0 ≤ (IntKind.i64.wrap (((a0.length : Nat) : Int) - 4)) ∧ (IntKind.i64.wrap (((a0.length : Nat) : Int) - 4)) ≤ a0.length) (chk ((([] : List UInt8).length + (a0.take (IntKind.i64.wrap (((a0.length : Nat) : Int) - 4)).toNat).length) * 1 ≤ 140737488355328) (some ((([] : List UInt8) ++ (a0.take (IntKind.i64.wrap (((a0.length : Nat) : Int) - 4)).toNat)),0))) | .inr p=>some p)))
structure GR02Cursor where
  B : List UInt8
  At : Int
  End : Int
  deriving DecidableEq
def Zhr (w : World) (cs : List Value) (x : GR02Cursor) : Prop:=∃ v0,cs=[v0,.int .i64 x.At,.int .i64 x.End] ∧ SlR w 1 (Zq eB) v0 x.B
theorem Zhr.mono : Zkr Zhr:=by
  intro w w' cs x e h
  obtain⟨v0,rfl,h0⟩:=h
  exact⟨v0,rfl,h0.agr (Zq.mono _) e⟩
noncomputable def Gb (a0 : List UInt8) : Option GR02Cursor:=chk ((([] : List UInt8).length + a0.length) * 1 ≤ 140737488355328) (some (⟨(([] : List UInt8) ++ a0),0,((a0.length : Nat) : Int)⟩ : GR02Cursor))
noncomputable def Jv (a0 : GR02Cursor) : Option (Int × GR02Cursor):=some ((IntKind.i64.wrap (a0.End - a0.At)),(⟨a0.B,a0.At,a0.End⟩ : GR02Cursor))
noncomputable def Ja (a0 : GR02Cursor) (a1 : Int) (a2 : Int) : (Int × Int) → Option ((Int × Int) ⊕ Int):=fun (aB,aA)=>(bif decide (aA < (IntKind.i64.wrap (a1 + a2))) then (rdI a0.B aA).bind fun aC=>some (.inl ((IntKind.i64.wrap ((IntKind.i64.wrap (aB * 256)) + (aC.toNat : Int))),(IntKind.i64.wrap (aA + 1)))) else some (.inr aB))
noncomputable def Jk (a0 : GR02Cursor) (a1 : Int) (a2 : Int) : Option (Int × GR02Cursor):=(Vj (Ja a0 a1 a2) (0,a1)).bind (fun aA=>some (aA,(⟨a0.B,a0.At,a0.End⟩ : GR02Cursor)))
noncomputable def Kw (a0 : GR02Cursor) (a1 : Int) (a2 : Int) (a3 : Int) : Option (Int × GR02Err × GR02Cursor):=(Ga a1).bind fun aC=>(bif decide (aC < 0) then some (0,(⟨12,(-1)⟩ : GR02Err),(⟨a0.B,a0.At,a0.End⟩ : GR02Cursor)) else (Jv (⟨a0.B,a0.At,a0.End⟩ : GR02Cursor)).bind fun aB=>(bif decide (aB.1 < a1) then some (0,(⟨1,aB.2.At⟩ : GR02Err),(⟨a0.B,aB.2.At,aB.2.End⟩ : GR02Cursor)) else (Jk (⟨a0.B,aB.2.At,aB.2.End⟩ : GR02Cursor) aB.2.At a1).bind fun aA=>(bif (decide (aA.1 < a2) || decide (a3 < aA.1)) then some (0,(⟨4,aA.2.At⟩ : GR02Err),(⟨a0.B,aA.2.At,aA.2.End⟩ : GR02Cursor)) else (Uz).bind fun aD=>some (aA.1,aD,(⟨a0.B,(IntKind.i64.wrap (aA.2.At + a1)),aA.2.End⟩ : GR02Cursor)))))
noncomputable def Jr (a0 : GR02Cursor) (a1 : Int) (a2 : Bool) : Option (Int × Option GR02Cursor × GR02Err × GR02Cursor):=(Jv (⟨a0.B,a0.At,a0.End⟩ : GR02Cursor)).bind fun aA=>(bif decide (aA.1 < 3) then some (0,none,(⟨1,aA.2.At⟩ : GR02Err),(⟨a0.B,aA.2.At,aA.2.End⟩ : GR02Cursor)) else (rdI a0.B aA.2.At).bind fun aD=>(bif ((a2 && decide ((aD.toNat : Int)=0)) || ((!a2) && ((!decide ((aD.toNat : Int)=a1)) || decide ((aD.toNat : Int)=0)))) then some (0,none,(⟨3,aA.2.At⟩ : GR02Err),(⟨a0.B,aA.2.At,aA.2.End⟩ : GR02Cursor)) else (Jk (⟨a0.B,aA.2.At,aA.2.End⟩ : GR02Cursor) (IntKind.i64.wrap (aA.2.At + 1)) 2).bind fun aC=>(Jv (⟨a0.B,aC.2.At,aC.2.End⟩ : GR02Cursor)).bind fun aB=>(bif decide ((IntKind.i64.wrap (aB.1 - 3)) < aC.1) then some (0,none,(⟨5,(IntKind.i64.wrap (aB.2.At + 1))⟩ : GR02Err),(⟨a0.B,aB.2.At,aB.2.End⟩ : GR02Cursor)) else (Uz).bind fun aE=>some ((aD.toNat : Int),some (⟨a0.B,(IntKind.i64.wrap (aB.2.At + 3)),(IntKind.i64.wrap ((IntKind.i64.wrap (aB.2.At + 3)) + aC.1))⟩ : GR02Cursor),aE,(⟨a0.B,(IntKind.i64.wrap (aB.2.At + (IntKind.i64.wrap (3 + aC.1)))),aB.2.End⟩ : GR02Cursor)))))
noncomputable def Jw (a0 : GR02Cursor) : Option (Int × Option GR02Cursor × GR02Err × GR02Cursor):=(Jr (⟨a0.B,a0.At,a0.End⟩ : GR02Cursor) 0 true).bind fun aA=>some (aA.1,aA.2.1,aA.2.2.1,(⟨a0.B,aA.2.2.2.At,aA.2.2.2.End⟩ : GR02Cursor))
structure GR02Rec where
  Tag : Int
  Body : List UInt8
  deriving DecidableEq
def Uh (w : World) (cs : List Value) (x : GR02Rec) : Prop:=∃ v0,cs=[.int .i64 x.Tag,v0] ∧ SlR w 1 (Zq eB) v0 x.Body
theorem Uh.mono : Zkr Uh:=by
  intro w w' cs x e h
  obtain⟨v0,rfl,h0⟩:=h
  exact⟨v0,rfl,h0.agr (Zq.mono _) e⟩
noncomputable def Jc (a0 : List UInt8) (aE : GR02Cursor) : (List GR02Rec × Int × Int) → Option ((List GR02Rec × Int × Int) ⊕ ((List GR02Rec) ⊕ (List GR02Rec × GR02Err))):=fun (aC,aF,aG)=>(Jv (⟨aE.B,aF,aG⟩ : GR02Cursor)).bind fun aD=>(bif decide (0 < aD.1) then (Jw (⟨aE.B,aD.2.At,aD.2.End⟩ : GR02Cursor)).bind fun aB=>(bif (!decide (aB.2.2.1.Code=0)) then some (.inr (.inr (([] : List GR02Rec),aB.2.2.1))) else (aB.2.1).bind fun aA=>chk (0 ≤ aA.At ∧ aA.At ≤ aA.End ∧ aA.End ≤ ((a0.length : Nat) : Int)) (chk ((([] : List UInt8).length + ((a0.drop aA.At.toNat).take (aA.End.toNat - aA.At.toNat)).length) * 1 ≤ 140737488355328) (chk ((aC.length + 1) * 32 ≤ 140737488355328) (some (.inl ((aC ++ [(⟨aB.1,(([] : List UInt8) ++ ((a0.drop aA.At.toNat).take (aA.End.toNat - aA.At.toNat)))⟩ : GR02Rec)]),aB.2.2.2.At,aB.2.2.2.End)))))) else some (.inr (.inl aC)))
noncomputable def Ui (a0 : List UInt8) : Option (List GR02Rec × GR02Err):=(Gb a0).bind fun aA=>(Vj (Jc a0 aA) (([] : List GR02Rec),aA.At,aA.End)).bind (fun q=>match q with | .inl aB=>(Uz).bind fun aC=>some (aB,aC) | .inr p=>some p)
noncomputable def Vd (aC : GR02Rec) : (Nat × List Int) → Option ((Nat × List Int) ⊕ (List Int)):=fun (aA,aB)=>(bif decide (aA < aC.Body.length) then (aC.Body[aA]?).bind fun aD=>chk ((aB.length + [(aD.toNat : Int)].length) * 8 ≤ 140737488355328) (some (.inl (aA + 1,(aB ++ [(aD.toNat : Int)])))) else some (.inr aB))
noncomputable def Kd (aF : Nat) : (List GPagePlan × List GProcPlan × List GPortPlan × Int × List Int) → Option ((Nat × List GPagePlan × List GProcPlan × List GPortPlan × Int × List Int) ⊕ (List GPagePlan × List GProcPlan × List GPortPlan × Int × List Int)):=fun (aA,aB,aC,aD,aE)=>some (.inl (aF + 1,aA,aB,aC,aD,aE))
noncomputable def Xq (a1 : List GR02Rec) : (Nat × List GPagePlan × List GProcPlan × List GPortPlan × Int × List Int) → Option ((Nat × List GPagePlan × List GProcPlan × List GPortPlan × Int × List Int) ⊕ (List GPagePlan × List GProcPlan × List GPortPlan × Int × List Int)):=fun (aB,aC,aD,aE,aG,aF)=>(bif decide (aB < a1.length) then (((a1[aB]?).bind fun aA=>(a1[aB]?).bind fun aS=>(bif (decide (aS.Tag=1) && decide (1 ≤ aA.Body.length)) then (aA.Body[0]?).bind fun aH=>chk (0 ≤ (1 : Int) ∧ (1 : Int) ≤ ((aA.Body.length : Nat) : Int) ∧ ((aA.Body.length : Nat) : Int) ≤ ((aA.Body.length : Nat) : Int)) (chk ((aC.length + [(⟨(aH.toNat : Int),(Za6 ((aA.Body.drop (1 : Int).toNat).take (((aA.Body.length : Nat) : Int).toNat - (1 : Int).toNat)))⟩ : GPagePlan)].length) * 24 ≤ 140737488355328) (some ((aC ++ [(⟨(aH.toNat : Int),(Za6 ((aA.Body.drop (1 : Int).toNat).take (((aA.Body.length : Nat) : Int).toNat - (1 : Int).toNat)))⟩ : GPagePlan)]),aD,aE,aG,aF))) else (a1[aB]?).bind fun aT=>(bif (decide (aT.Tag=2) && decide (aA.Body.length=6)) then (aA.Body[0]?).bind fun aI=>(aA.Body[1]?).bind fun aJ=>(aA.Body[2]?).bind fun aK=>(aA.Body[3]?).bind fun aL=>(aA.Body[4]?).bind fun aM=>(aA.Body[5]?).bind fun aN=>chk ((aD.length + [(⟨(IntKind.i64.wrap ((IntKind.i64.wrap ((IntKind.i64.wrap ((IntKind.i64.wrap ((aI.toNat : Int) * 16777216)) + (IntKind.i64.wrap ((aJ.toNat : Int) * 65536)))) + (IntKind.i64.wrap ((aK.toNat : Int) * 256)))) + (aL.toNat : Int))),(aM.toNat : Int),decide ((aN.toNat : Int)=1)⟩ : GProcPlan)].length) * 24 ≤ 140737488355328) (some (aC,(aD ++ [(⟨(IntKind.i64.wrap ((IntKind.i64.wrap ((IntKind.i64.wrap ((IntKind.i64.wrap ((aI.toNat : Int) * 16777216)) + (IntKind.i64.wrap ((aJ.toNat : Int) * 65536)))) + (IntKind.i64.wrap ((aK.toNat : Int) * 256)))) + (aL.toNat : Int))),(aM.toNat : Int),decide ((aN.toNat : Int)=1)⟩ : GProcPlan)]),aE,aG,aF)) else (a1[aB]?).bind fun aU=>(bif (decide (aU.Tag=3) && decide (aA.Body.length=4)) then (aA.Body[0]?).bind fun aO=>(aA.Body[1]?).bind fun aP=>(aA.Body[2]?).bind fun aQ=>(aA.Body[3]?).bind fun aR=>chk ((aE.length + [(⟨(aO.toNat : Int),(aP.toNat : Int),(aQ.toNat : Int),(aR.toNat : Int)⟩ : GPortPlan)].length) * 32 ≤ 140737488355328) (some (aC,aD,(aE ++ [(⟨(aO.toNat : Int),(aP.toNat : Int),(aQ.toNat : Int),(aR.toNat : Int)⟩ : GPortPlan)]),aG,aF)) else (a1[aB]?).bind fun aV=>(bif (decide (aV.Tag=4) && decide (aA.Body.length=1)) then (aA.Body[0]?).bind fun aW=>some (aC,aD,aE,(aW.toNat : Int),aF) else (a1[aB]?).bind fun aX=>(bif decide (aX.Tag=5) then (Vj (Vd aA) (0,aF)).bind (fun aY=>some (aC,aD,aE,aG,aY)) else some (aC,aD,aE,aG,aF))))))) : Option (List GPagePlan × List GProcPlan × List GPortPlan × Int × List Int)).bind (fun p=>(Kd aB) p) else some (.inr (aC,aD,aE,aG,aF)))
noncomputable def Zbq (a0 : GPlan) (a1 : List GR02Rec) : Option GPlan:=(Vj (Xq a1) (0,([] : List GPagePlan),([] : List GProcPlan),([] : List GPortPlan),a0.Events,([] : List Int))).bind (fun (aA,aB,aC,aD,aE)=>some (⟨a0.Id,a0.Mobile,aA,aB,aC,aD,aE⟩ : GPlan))
noncomputable def Uj (aA : GPlan) : Bool → Option (GPlan × Int):=fun aB=>(bif aB then some ((⟨0,false,([] : List GPagePlan),([] : List GProcPlan),([] : List GPortPlan),0,([] : List Int)⟩ : GPlan),8) else some ((⟨aA.Id,aA.Mobile,aA.Pages,aA.Procs,aA.Ports,aA.Events,aA.Sems⟩ : GPlan),0))
noncomputable def Yi (a0 : List UInt8) : Option (GPlan × Int):=(Zac a0).bind fun aA=>(bif (!decide (aA.2=0)) then some ((⟨0,false,([] : List GPagePlan),([] : List GProcPlan),([] : List GPortPlan),0,([] : List Int)⟩ : GPlan),aA.2) else (bif decide (aA.1.length < 15) then some ((⟨0,false,([] : List GPagePlan),([] : List GProcPlan),([] : List GPortPlan),0,([] : List Int)⟩ : GPlan),1) else chk (0 ≤ (6 : Int) ∧ (6 : Int) ≤ aA.1.length) ((bif (!decide ((Za6 (aA.1.take (6 : Int).toNat))=⟨#[70,80,76,78,0,1]⟩)) then some ((⟨0,false,([] : List GPagePlan),([] : List GProcPlan),([] : List GPortPlan),0,([] : List Int)⟩ : GPlan),7) else chk (0 ≤ (6 : Int) ∧ (6 : Int) ≤ ((aA.1.length : Nat) : Int) ∧ ((aA.1.length : Nat) : Int) ≤ ((aA.1.length : Nat) : Int)) ((Gb ((aA.1.drop (6 : Int).toNat).take (((aA.1.length : Nat) : Int).toNat - (6 : Int).toNat))).bind fun aB=>(Kw (⟨aB.B,aB.At,aB.End⟩ : GR02Cursor) 4 0 4294967295).bind fun aC=>(bif (!decide (aC.1=((a0.length : Nat) : Int))) then some ((⟨0,false,([] : List GPagePlan),([] : List GProcPlan),([] : List GPortPlan),0,([] : List Int)⟩ : GPlan),5) else (Kw (⟨aB.B,aC.2.2.At,aC.2.2.End⟩ : GR02Cursor) 4 0 4294967295).bind fun aF=>chk (0 ≤ (15 : Int) ∧ (15 : Int) ≤ ((aA.1.length : Nat) : Int) ∧ ((aA.1.length : Nat) : Int) ≤ ((aA.1.length : Nat) : Int)) ((Ui ((aA.1.drop (15 : Int).toNat).take (((aA.1.length : Nat) : Int).toNat - (15 : Int).toNat))).bind fun aG=>(bif ((!decide (aG.2.Code=0)) || decide (2147483647 < aF.1)) then some ((⟨0,false,([] : List GPagePlan),([] : List GProcPlan),([] : List GPortPlan),0,([] : List Int)⟩ : GPlan),8) else (aA.1[14]?).bind fun aH=>(Zbq (⟨aF.1,decide ((aH.toNat : Int)=1),([] : List GPagePlan),([] : List GProcPlan),([] : List GPortPlan),0,([] : List Int)⟩ : GPlan) aG.1).bind fun aD=>(Ug aD).bind fun aE=>(((bif (!decide (aE.2=0)) then some true else some (!decide ((Za6 aE.1)=(Za6 a0))))) : Option Bool).bind (fun p=>(Uj aD) p)))))))))
noncomputable def Kk (a0 : ErrM) (a1 : Int) : Option Bool:=(bif decide ((ErrM.code a0)=a1) then some (decide ((ErrM.place a0)=(-1))) else some false)
theorem Zjp (x y : GPagePlan) : Znd Tryz.prog 114 2 (.agg (Qc x).toArray) (.agg (Qc y).toArray) (decide (x=y)):=by
  have h:=Zeq (m:=1) st114 (Tp (Vg (cs:=Qc x) (v:=Value.int .i64 x.Rights) ag3 rfl) (Vg (cs:=Qc y) (v:=Value.int .i64 y.Rights) ag3 rfl) ((Zdd Tryz.underlying3).mono (by omega)) (Tp (Vg (cs:=Qc x) (v:=Value.string x.Init) ag9 rfl) (Vg (cs:=Qc y) (v:=Value.string y.Init) ag9 rfl) ((Zmc Tryz.underlying9).mono (by omega)) Zjl))
  have e : decide (x=y)=(decide (x.Rights=y.Rights) && (decide (x.Init=y.Init) && true)):=by
    cases x;cases y;simp [Bool.decide_and]
  rw [e];exact h
theorem Zjq (x y : GProcPlan) : Znd Tryz.prog 116 2 (.agg (Zx x).toArray) (.agg (Zx y).toArray) (decide (x=y)):=by
  have h:=Zeq (m:=1) st116 (Tp (Vg (cs:=Zx x) (v:=Value.int .i64 x.Entry) ag3 rfl) (Vg (cs:=Zx y) (v:=Value.int .i64 y.Entry) ag3 rfl) ((Zdd Tryz.underlying3).mono (by omega)) (Tp (Vg (cs:=Zx x) (v:=Value.int .i64 x.Prio) ag3 rfl) (Vg (cs:=Zx y) (v:=Value.int .i64 y.Prio) ag3 rfl) ((Zdd Tryz.underlying3).mono (by omega)) (Tp (Vg (cs:=Zx x) (v:=Value.bool x.Auto) ag4 rfl) (Vg (cs:=Zx y) (v:=Value.bool y.Auto) ag4 rfl) ((Zpb Tryz.underlying4).mono (by omega)) Zjl)))
  have e : decide (x=y)=(decide (x.Entry=y.Entry) && (decide (x.Prio=y.Prio) && (decide (x.Auto=y.Auto) && true))):=by
    cases x;cases y;simp [Bool.decide_and]
  rw [e];exact h
theorem Zjr (x y : GPortPlan) : Znd Tryz.prog 118 2 (.agg (Zw x).toArray) (.agg (Zw y).toArray) (decide (x=y)):=by
  have h:=Zeq (m:=1) st118 (Tp (Vg (cs:=Zw x) (v:=Value.int .i64 x.Kind) ag3 rfl) (Vg (cs:=Zw y) (v:=Value.int .i64 y.Kind) ag3 rfl) ((Zdd Tryz.underlying3).mono (by omega)) (Tp (Vg (cs:=Zw x) (v:=Value.int .i64 x.Size) ag3 rfl) (Vg (cs:=Zw y) (v:=Value.int .i64 y.Size) ag3 rfl) ((Zdd Tryz.underlying3).mono (by omega)) (Tp (Vg (cs:=Zw x) (v:=Value.int .i64 x.Depth) ag3 rfl) (Vg (cs:=Zw y) (v:=Value.int .i64 y.Depth) ag3 rfl) ((Zdd Tryz.underlying3).mono (by omega)) (Tp (Vg (cs:=Zw x) (v:=Value.int .i64 x.Refresh) ag3 rfl) (Vg (cs:=Zw y) (v:=Value.int .i64 y.Refresh) ag3 rfl) ((Zdd Tryz.underlying3).mono (by omega)) Zjl))))
  have e : decide (x=y)=(decide (x.Kind=y.Kind) && (decide (x.Size=y.Size) && (decide (x.Depth=y.Depth) && (decide (x.Refresh=y.Refresh) && true)))):=by
    cases x;cases y;simp [Bool.decide_and]
  rw [e];exact h
noncomputable def Hd (a0 : GPlan) (a1 : GPlan) : Nat → Option (Nat ⊕ (Unit ⊕ Bool)):=fun aA=>(bif decide (aA < a0.Sems.length) then (a0.Sems[aA]?).bind fun aB=>(a1.Sems[aA]?).bind fun aC=>(bif (!decide (aB=aC)) then some (.inr (.inr false)) else some (.inl (aA + 1))) else some (.inr (.inl ())))
noncomputable def He (a0 : GPlan) (a1 : GPlan) : Nat → Option (Nat ⊕ (Unit ⊕ Bool)):=fun aA=>(bif decide (aA < a0.Ports.length) then (a0.Ports[aA]?).bind fun aB=>(a1.Ports[aA]?).bind fun aC=>(bif (!decide (aB=aC)) then some (.inr (.inr false)) else some (.inl (aA + 1))) else some (.inr (.inl ())))
noncomputable def Hf (a0 : GPlan) (a1 : GPlan) : Nat → Option (Nat ⊕ (Unit ⊕ Bool)):=fun aA=>(bif decide (aA < a0.Procs.length) then (a0.Procs[aA]?).bind fun aB=>(a1.Procs[aA]?).bind fun aC=>(bif (!decide (aB=aC)) then some (.inr (.inr false)) else some (.inl (aA + 1))) else some (.inr (.inl ())))
noncomputable def Hg (a0 : GPlan) (a1 : GPlan) : Nat → Option (Nat ⊕ (Unit ⊕ Bool)):=fun aA=>(bif decide (aA < a0.Pages.length) then (a0.Pages[aA]?).bind fun aB=>(a1.Pages[aA]?).bind fun aC=>(bif (!decide (aB=aC)) then some (.inr (.inr false)) else some (.inl (aA + 1))) else some (.inr (.inl ())))
noncomputable def Hh (a0 : GPlan) (a1 : GPlan) : Option Bool:=(bif (((((((!decide (a0.Id=a1.Id)) || (!(a0.Mobile == a1.Mobile))) || (!decide (a0.Events=a1.Events))) || (!decide (a0.Pages.length=a1.Pages.length))) || (!decide (a0.Procs.length=a1.Procs.length))) || (!decide (a0.Ports.length=a1.Ports.length))) || (!decide (a0.Sems.length=a1.Sems.length))) then some false else (Vj (Hg a0 a1) 0).bind (fun q=>match q with | .inl _=>(Vj (Hf a0 a1) 0).bind (fun q=>match q with | .inl _=>(Vj (He a0 a1) 0).bind (fun q=>match q with | .inl _=>(Vj (Hd a0 a1) 0).bind (fun q=>match q with | .inl _=>some true | .inr p=>some p) | .inr p=>some p) | .inr p=>some p) | .inr p=>some p))
noncomputable def Zc1 (a0 : GPlan) : Option (Int × Int):=(Ug a0).bind fun aA=>(bif (!decide (aA.2=0)) then some (0,aA.2) else chk (0 ≤ (IntKind.i64.wrap (((aA.1.length : Nat) : Int) - 4)) ∧ (IntKind.i64.wrap (((aA.1.length : Nat) : Int) - 4)) ≤ aA.1.length) ((Zbp (aA.1.take (IntKind.i64.wrap (((aA.1.length : Nat) : Int) - 4)).toNat)).bind fun aB=>some (aB,0)))
noncomputable def Zad (a0 : GPlan) : Option (Int × ErrM):=(Yb a0).bind fun aA=>(bif (!decide (aA.2=.nil)) then some (0,aA.2) else chk (0 ≤ (IntKind.i64.wrap (((aA.1.length : Nat) : Int) - 4)) ∧ (IntKind.i64.wrap (((aA.1.length : Nat) : Int) - 4)) ≤ aA.1.length) ((Zbg (aA.1.take (IntKind.i64.wrap (((aA.1.length : Nat) : Int) - 4)).toNat)).bind fun aB=>some (aB,.nil)))
structure GL10Case where
  P : GPlan
  Q : GPlan
  B : List UInt8
  At : Int
  Mask : Int
  deriving DecidableEq
def Zfk (w : World) (cs : List Value) (x : GL10Case) : Prop:=∃ v0 v1 v2 v3 v4 v5 v6 v7 v8,cs=[.int .i64 x.P.Id,.bool x.P.Mobile,v0,v1,v2,.int .i64 x.P.Events,v3,.int .i64 x.Q.Id,.bool x.Q.Mobile,v4,v5,v6,.int .i64 x.Q.Events,v7,v8,.int .i64 x.At,.int .u32 x.Mask] ∧ SlR w 2 (Zq Qc) v0 x.P.Pages ∧ SlR w 3 (Zq Zx) v1 x.P.Procs ∧ SlR w 4 (Zq Zw) v2 x.P.Ports ∧ SlR w 1 (Zq eI) v3 x.P.Sems ∧ SlR w 2 (Zq Qc) v4 x.Q.Pages ∧ SlR w 3 (Zq Zx) v5 x.Q.Procs ∧ SlR w 4 (Zq Zw) v6 x.Q.Ports ∧ SlR w 1 (Zq eI) v7 x.Q.Sems ∧ SlR w 1 (Zq eB) v8 x.B
theorem Zfk.mono : Zkr Zfk:=by
  intro w w' cs x e h
  obtain⟨v0,v1,v2,v3,v4,v5,v6,v7,v8,rfl,h0,h1,h2,h3,h4,h5,h6,h7,h8⟩:=h
  exact⟨v0,v1,v2,v3,v4,v5,v6,v7,v8,rfl,h0.agr (Zq.mono _) e,h1.agr (Zq.mono _) e,h2.agr (Zq.mono _) e,h3.agr (Zq.mono _) e,h4.agr (Zq.mono _) e,h5.agr (Zq.mono _) e,h6.agr (Zq.mono _) e,h7.agr (Zq.mono _) e,h8.agr (Zq.mono _) e⟩
noncomputable def Wf (aA : Nat) : Bool → Option (Nat ⊕ (Unit ⊕ Bool)):=fun aB=>(bif aB then some (.inr (.inr false)) else some (.inl (aA + 1)))
noncomputable def Ji (a0 : GL10Case) (aH : List UInt8 × Int) : Nat → Option (Nat ⊕ (Unit ⊕ Bool)):=fun aA=>(bif decide (aA < 2) then ([a0.B,aH.1][aA]?).bind fun aE=>(Yi aE).bind fun aB=>([a0.B,aH.1][aA]?).bind fun aC=>chk ((([] : List UInt8).length + aC.length) * 1 ≤ 140737488355328) ((Jh (([] : List UInt8) ++ aC)).bind fun aD=>(((Kk aD.2 aB.2).bind fun aF=>(bif (!aF) then some true else (Hh aB.1 aD.1).bind fun aG=>some (!aG))) : Option Bool).bind (fun p=>(Wf aA) p)) else some (.inr (.inl ())))
noncomputable def Yc (a0 : GL10Case) (aB : List UInt8 × Int) : Bool → Option Bool:=fun aA=>(bif aA then some false else (Vj (Ji a0 aB) 0).bind (fun q=>match q with | .inl _=>some true | .inr p=>some p))
noncomputable def Yd (a0 : GL10Case) (aF : List UInt8 × Int) (aC : Int × Int) : Bool → Option Bool:=fun aD=>(bif aD then some false else (Zba a0.P).bind fun aE=>(Zad aE).bind fun aA=>(((bif (!decide (aA.1=aC.1)) then some true else (Kk aA.2 aC.2).bind fun aB=>some (!aB))) : Option Bool).bind (fun p=>(Yc a0 aF) p))
noncomputable def Ws (a0 : GL10Case) : Option Bool:=(Tq).bind fun aD=>(bif (!aD) then some false else (Ug a0.P).bind fun aA=>(Zc1 a0.P).bind fun aE=>(Zba a0.P).bind fun aF=>(Yb aF).bind fun aB=>(((Kk aB.2 aA.2).bind fun aC=>(bif (!aC) then some true else some (!decide ((Za6 aB.1)=(Za6 aA.1))))) : Option Bool).bind (fun p=>(Yd a0 aA aE) p))
end Go.Proofs.YtfemfiiagjnhdaaGreatDoor
