/- Part of a claim, shortened by a program from its texts: Deep, Nest, Fast, Mid, Cpy, Ptr, Cop, Thin, Mini. -/
import Derived.Test.YtjekfpnpfllaoaaGreatDoorQcC
set_option linter.unusedVariables false
set_option linter.unusedSimpArgs false
set_option linter.unusedSectionVars false
namespace Go.Proofs.YtjekfpnpfllaoaaGreatDoor
open Go Go.RowKit
theorem List.take_set_of_le_aux {β : Type} (c : β) (ys : List β) (i : Nat) (h : i < ys.length) : (ys.set i c).take (i + 1)=ys.take i ++ [c]:=by
  rw [List.take_set,List.take_add_one,List.getElem?_eq_getElem h];simp only [Option.toList_some];rw [List.set_append_right _ _ (by simp;omega)];simp [Nat.min_eq_left (Nat.le_of_lt h)]
section
variable {α : Type} {R : World → List Value → α → Prop} {k : Nat}
def RSl (k : Nat) (e : α → List Value) (w : World) (cs : List Value) (xs : List α) : Prop:=∃ v,cs=[v] ∧ SlR w k (Qs e) v xs
theorem RSl.mono (k : Nat) (e : α → List Value) : Zpr (RSl k e):=by
  intro w w' cs x ag h;obtain⟨v,rfl,h⟩:=h;exact⟨v,rfl,h.agr (Qs.mono _) ag⟩
def DIn (k : Nat) (R : World → List Value → α → Prop) : List (List Value) → List α → World → Prop
  | [],[],_=>True
  | cs :: css,x :: xs,w=>(cs.length=k ∧ (∀ u ∈ cs,u.oneCell' = true) ∧ R w cs x) ∧ DIn k R css xs w
  | _,_,_=>False
theorem DIn.len {w : World} : ∀ {css : List (List Value)} {xs : List α},DIn k R css xs w → css.length=xs.length
  | [],[],_=>rfl
  | cs :: css,x :: xs,⟨_,h⟩=>by simp [h.len]
  | [],x :: xs,h=>h.elim
  | cs :: css,[],h=>h.elim
theorem DIn.one {w : World} : ∀ {css : List (List Value)} {xs : List α},DIn k R css xs w → ∀ u ∈ css.flatten,u.oneCell' = true
  | [],[],_,u,hu=>by simp at hu
  | cs :: css,x :: xs,⟨h1,h⟩,u,hu=>by
    rw [List.flatten_cons,List.mem_append] at hu;exact hu.elim (h1.2.1 u) (h.one u)
  | [],x :: xs,h,_,_=>h.elim
  | cs :: css,[],h,_,_=>h.elim
theorem DIn.at {w : World} : ∀ {css : List (List Value)} {xs : List α} {i : Nat} {x : α},DIn k R css xs w → xs[i]? = some x → ∃ cs,cs.length=k ∧ R w cs x ∧ ∀ j u,cs[j]? = some u → css.flatten[i * k + j]? = some u
  | [],[],i,x,_,hx=>by simp at hx
  | cs :: css,y :: xs,0,x,⟨h1,h⟩,hx=>by
    simp only [List.getElem?_cons_zero,Option.some.injEq] at hx;subst hx;refine⟨cs,h1.1,h1.2.2,fun j u hu=>?_⟩;rw [List.flatten_cons,List.getElem?_append_left (by have:=(List.getElem?_eq_some_iff.1 hu).1;omega)]
    simpa using hu
  | cs :: css,y :: xs,i + 1,x,⟨h1,h⟩,hx=>by
    obtain⟨cs',g1,g2,g3⟩:=h.at (i:=i) (by simpa using hx);refine⟨cs',g1,g2,fun j u hu=>?_⟩;rw [List.flatten_cons,List.getElem?_append_right (by rw [h1.1,Nat.succ_mul];omega),h1.1];have e : (i + 1) * k + j - k=i * k + j:=by rw [Nat.succ_mul];omega
    rw [e];exact g3 j u hu
  | [],x :: xs,_,_,h,_=>h.elim
  | cs :: css,[],_,_,h,_=>h.elim
theorem DIn.app {w : World} {css' : List (List Value)} {xs' : List α} (h' : DIn k R css' xs' w) : ∀ {css : List (List Value)} {xs : List α},DIn k R css xs w → DIn k R (css ++ css') (xs ++ xs') w
  | [],[],_=>h'
  | c :: css,y :: xs,⟨g,h⟩=>⟨g,DIn.app h' h⟩
  | [],x :: xs,h=>h.elim
  | cs :: css,[],h=>h.elim
theorem DIn.cons {w : World} {cs : List Value} {x : α} {css : List (List Value)} {xs : List α} (h1 : cs.length=k) (h2 : ∀ u ∈ cs,u.oneCell' = true) (h3 : R w cs x) (h : DIn k R css xs w) : DIn k R (cs :: css) (x :: xs) w:=⟨⟨h1,h2,h3⟩,h⟩
theorem DIn.mono (hR : Zpr R) {w w' : World} (e : Agr w w') : ∀ {css : List (List Value)} {xs : List α},DIn k R css xs w → DIn k R css xs w'
  | [],[],_=>trivial
  | c :: css,y :: xs,⟨g,h⟩=>⟨⟨g.1,g.2.1,hR _ _ _ _ e g.2.2⟩,h.mono hR e⟩
  | [],x :: xs,h=>h.elim
  | cs :: css,[],h=>h.elim
theorem SlR.ofCells {w : World} {b cap n : Nat} {css : List (List Value)} {xs : List α} (hc : ∀ j u,css.flatten[j]? = some u → w.cell? ⟨b,j,none⟩=some u) (hd : DIn k R css xs w) (hn : n=xs.length) (hcap : n ≤ cap) (hm : cap ≤ maxLen) : SlR w k R (.slice (some ⟨b,0,none⟩) n cap) xs:=by
  subst hn;refine⟨some ⟨b,0,none⟩,cap,rfl,hcap,hm,(fun h=>by cases h),fun ad h i x hx=>?_⟩;cases h
  obtain⟨cs,h1,h2,h3⟩:=hd.at hx;exact⟨cs,h1,h2,fun j u hu=>by rw [Yx];exact hc _ u (h3 j u hu)⟩
theorem SlR.ofBlk {w : World} {b n T : Nat} (css : List (List Value)) (xs : List α) (h : Blk w b css.flatten T) (hd : DIn k R css xs w) (hn : n=xs.length) (hm : n ≤ maxLen) : SlR w k R (.slice (some ⟨b,0,none⟩) n n) xs:=
  SlR.ofCells (fun j u hu=>(h.cell j).trans hu) hd hn (Nat.le_refl _) hm
theorem Own.slD {w : World} {E n : Nat} {v : Value} {css : List (List Value)} {xs : List α} (h : Own w E k v n css.flatten) (hd : DIn k R css xs w) (hn : n=xs.length) : SlR w k R v xs:=by
  rcases id h with ⟨rfl,h0,h1⟩ | ⟨b,cap,cs,rfl,hB,h2,h3,h4,h5,h6⟩
  · cases xs with
    | nil=>exact SlR.nil w k R
    | cons x xs=>simp at hn;omega
  · exact SlR.ofCells (fun j u hu=>h.cell hu) hd hn h2 h3
theorem ldElH {P : Program} {w : World} {T i : Nat} {ad : Addr} {v : Value} (ht : Ty P T=some false) (hc : ∀ j u,[v][j]? = some u → w.cell? (ad.add (i * 1 + j))=some u) : LdX P T w (ad.add (i * 1)) v:=LdX.one ht (hc 0 v rfl)
theorem Zkj {place : Nat → Option (Nat × Nat)} {i off : Nat} {v : Value} {zs ds : List Value} {n : Nat} {rest : List (Nat × Value)} (h : v.cells=ds.toArray) (hn : ds.length=n) (hp : place i=some (off,n)) (hl : off + n ≤ zs.length) :
    Instr.fill place zs.toArray ((i,v) :: rest)=Instr.fill place (zs.take off ++ ds ++ zs.drop (off + n)).toArray rest:=by
  subst hn;rw [Instr.fill,hp];simp only [h];have h1 : ¬ (ds.toArray.size ≠ ds.length || decide (off + ds.toArray.size > zs.toArray.size))=true:=by simp;omega
  rw [if_neg h1]
  congr 1
  have key : ∀ (es : List Value) (j : Nat) (ys : List Value),off + j + es.length ≤ ys.length → (es.zipIdx j).foldl (fun cs (c,j)=>cs.setIfInBounds (off + j) c) ys.toArray=(ys.take (off + j) ++ es ++ ys.drop (off + j + es.length)).toArray:=by
    intro es
    induction es with
    | nil=>intro j ys _;simp
    | cons c es ih=>
      intro j ys hj;simp only [List.zipIdx_cons,List.foldl_cons,List.setIfInBounds_toArray];rw [ih (j + 1) _ (by simp at hj ⊢;omega)];simp only [List.length_cons] at hj
      congr 1
      have e1 : off + (j + 1)=off + j + 1:=by omega
      rw [e1,List.take_set_of_le_aux c ys (off + j) (by omega)];rw [List.drop_set_of_lt (by omega)];simp only [List.append_assoc,List.cons_append,List.nil_append,List.length_cons];have e2 : off + j + 1 + es.length=off + j + (es.length + 1):=by omega
      rw [e2]
  have:=key ds 0 zs (by simpa using hl)
  simpa using this
def deepR (E k : Nat) (R : World → List Value → α → Prop) (v : Value) (xs : List α) : Rs:=exR fun css : List (List Value)=>starR [ownR E k v xs.length css.flatten,anyR (DIn k R css xs)]
theorem Src.blk {w : World} {b m c T : Nat} {cs : List Value} (h : Blk w b cs T) (hl : cs.length=m * k) : Src w k (.slice (some ⟨b,0,none⟩) m c) m cs:=.inr (.inl ⟨_,_,rfl,hl,fun j u hu=>by rw [Yx];exact (h.cell j).trans hu⟩)
end
section
variable {α : Type} {R : World → List Value → α → Prop} {E k n : Nat} {v : Value} {xs : List α} {x : α} {fp : Nat → Prop} {w0 w w' : World} {rs : List Rs}
theorem deepR.sl {g : Nat → Prop} (h : (deepR E k R v xs).P w g) : SlR w k R v xs:=by
  obtain⟨css,⟨f1,h1,h2,f2,h3,h4,_⟩,_⟩:=h;exact h1.1.slD h3.now rfl
theorem St.deepSl (i : Nat) (h : St fp w0 w rs) (hi : rs[i]? = some (deepR E k R v xs)) : SlR w k R v xs:=by
  obtain⟨g,h1⟩:=h.get i hi;exact deepR.sl h1
theorem St.deep (h : St fp w0 w (deepR E k R v xs :: rs)) : ∃ css,St fp w0 w (ownR E k v xs.length css.flatten :: anyR (DIn k R css xs) :: rs):=by
  obtain⟨css,h⟩:=h.ex;exact⟨css,h.star⟩
theorem St.mkDeep {css : List (List Value)} (h : St fp w0 w (ownR E k v xs.length css.flatten :: anyR (DIn k R css xs) :: rs)) : St fp w0 w (deepR E k R v xs :: rs):=
  St.mkEx (f:=fun css : List (List Value)=>starR [ownR E k v xs.length css.flatten,anyR (DIn k R css xs)]) css (h.fold [_,_])
theorem St.deepNil (E k : Nat) (R : World → List Value → α → Prop) (h : St fp w0 w rs) : St fp w0 w (deepR E k R (.slice none 0 0) [] :: rs):=
  St.mkDeep (css:=[]) ((h.trivAny (F:=DIn k R [] []) fun _=>trivial).nilOwn E k)
end
section
variable {P : Program} {ops : Array Oper} {Q : Exit → Act → World → Prop} {rest : List Oper} {a : Act} {n : Nat} {l : List (Nat × Option Value)} {w : World}
  {ty : TypeId} {pos : String} {af : Array Edge} {d : Nat} {v u : Value}
variable {α : Type} {R : World → List Value → α → Prop} {E k m bytes : Nat} {z : List Value} {xs ys : List α} {css : List (List Value)} {fp : Nat → Prop} {w0 : World} {rs : List Rs}
theorem n_appD {x y : Operand} {t t' : Nat} {d' : TypeDesc} (hS : St fp w0 w (deepR E k R v xs :: anyR (DIn k R css ys) :: rs)) (H : Has a n l) (ex : lo l x=some v) (ey : lo l y=some u)
    (ht : P.underlying t=some (.slice E)) (ht' : P.underlying t' = some d') (hd' : ∀ q,d' ≠ .int q) (hE : ElemOk P E k bytes z) (hx : Src w k u ys.length css.flatten)
    (hb : (xs.length + ys.length) * bytes ≤ 140737488355328) (h63 : xs.length + ys.length ≤ maxLen) (hd : Nat.blt d n=true)
    (h : ∀ v' w',St fp w0 w' (deepR E k R v' (xs ++ ys) :: rs) → ∀ a',Has a' n ((d,some v') :: l) → wpList P ops Q rest a' w') :
    wpList P ops Q (⟨some d,.call { callee:=.builtin .append,args:=#[x,y],argTypes:=#[t,t'] },ty,pos,af,none⟩ :: rest) a w:=by
  obtain⟨css0,hS1⟩:=hS.deep;have hd2 : DIn k R css ys w:=hS1.any 2 rfl;refine Zo8 H ex ey ht ht' hd' hE (hS1.own 0 rfl) hx hd2.one hb h63 hd fun v' w' hO hC hbl _ a' H'=>?_
  have hS2:=hS1.setOwn hO hC hbl;have hS3:=(St.pick 1 hS2 rfl);dsimp only [List.eraseIdx] at hS3;have hS4:=(St.pick 2 hS3 rfl);dsimp only [List.eraseIdx] at hS4;have hS5:=hS4.anyAnd.anyMono (G:=DIn k R (css0 ++ css) (xs ++ ys)) fun w'' hw=>DIn.app hw.1 hw.2
  have hS6:=(St.pick 1 hS5 rfl);dsimp only [List.eraseIdx] at hS6;refine h v' w' (St.mkDeep (css:=css0 ++ css) ?_) a' H';rw [List.length_append,List.flatten_append];exact hS6
end
end Go.Proofs.YtjekfpnpfllaoaaGreatDoor
set_option linter.unusedVariables false
set_option linter.unusedSimpArgs false
set_option linter.unusedSectionVars false
namespace Go.Proofs.YtjekfpnpfllaoaaGreatDoor
open Go Go.RowKit
section
variable {fp : Nat → Prop} {w0 w w' : World} {rs rows : List Rs} {r : Rs} {i : Nat}
end
section
variable {β : Type}
end
section
variable {α : Type} {El : List Value → α → Rs} {R : World → List Value → α → Prop} {k : Nat}
variable {fp : Nat → Prop} {w0 w w' : World} {rs : List Rs} {T i : Nat} {v : Value} {xs : List α} {x x' : α} {css : List (List Value)} {cs cs' : List Value}
end
section
variable {α : Type} {e : α → List Value} {E k T : Nat} {fp : Nat → Prop} {w0 w w' : World} {rs : List Rs} {v u u' : Value} {xss : List (List α)} {xs ys : List α} {css : List (List Value)} {i : Nat}
end
section
variable {P : Program} {ops : Array Oper} {Q : Exit → Act → World → Prop} {rest : List Oper} {a : Act} {n : Nat} {l : List (Nat × Option Value)} {w : World}
  {ty : TypeId} {pos : String} {af : Array Edge} {d : Nat} {v u : Value}
variable {E k c i : Nat} {A : Option Addr} {ad : Addr} {xs : List Value} {x y : Operand} {t m n0 : Nat}
end
section
variable {P : Program} {ops : Array Oper} {Q : Exit → Act → World → Prop} {a : Act} {n : Nat} {l : List (Nat × Option Value)} {w : World} {k0 fuel h0 : Nat} {listed : Array Bool} {B : List Nat}
  {ty : TypeId} {pos : String} {af : Array Edge} {d : Nat} {v u : Value}
variable {E k c i : Nat} {A : Option Addr} {ad : Addr} {xs : List Value} {x y : Operand} {t m n0 : Nat}
theorem Zrf (j : Nat) {b cap o : Nat} (H : Has a n l) (hi : ops[j]? = some ⟨none,.store t x y,ty,pos,af,none⟩) (ex : lo l x=some (.pointer (some ⟨b,o,none⟩))) (ey : lo l y=some u) (hs : Xb P t=some 1) (h1 : u.oneCell' = true)
    (hO : Own w E k (.slice (some ⟨b,0,none⟩) m cap) m xs) (ho : o < m * k) (hr : Region.ready .any ops listed=[j]) (hB : act k0 (listed.setIfInBounds j true)=false)
    (h : ∀ w',Own w' E k (.slice (some ⟨b,0,none⟩) m cap) m (xs.set o u) → Chg [b] w w' → ∀ a',Has a' n l → wpK P ops Q k0 (ChgF B h0 w') fuel (listed.setIfInBounds j true) a' w') :
    wpK P ops Q k0 (ChgF B h0 w) (fuel + 1) listed a w:=by
  obtain⟨cs,hb,h2,h3,h4,h5,h6⟩:=hO.blk;have hc : m * k ≤ cap * k:=Nat.mul_le_mul_right k h2;refine Zbt j H hi ex ey hs hb (by omega) h1 hr (.inr hB) fun w' hB hC hz a' H'=>h w' ?_ hC a' H'
  refine Own.ofBlk' hB h2 h3 (by simpa using h4) ?_ (by simpa using h5);rw [List.take_set,h6]
theorem k_app {α : Type} {e : α → List Value} {xs ys : List α} (j : Nat) {t' bytes : Nat} {z : List Value} {d' : TypeDesc} (H : Has a n l) (hi : ops[j]? = some ⟨some d,.call { callee:=.builtin .append,args:=#[x,y],argTypes:=#[t,t'] },ty,pos,af,none⟩) (ex : lo l x=some v) (ey : lo l y=some u)
    (ht : P.underlying t=some (.slice E)) (ht' : P.underlying t' = some d') (hd' : ∀ q,d' ≠ .int q) (hE : ElemOk P E k bytes z) (hv : Own w E k v xs.length (xs.flatMap e)) (hx : Src w k u ys.length (ys.flatMap e)) (h1 : ∀ z,∀ c ∈ e z,c.oneCell' = true)
    (hb : (xs.length + ys.length) * bytes ≤ 140737488355328) (h63 : xs.length + ys.length ≤ maxLen) (hd : Nat.blt d n=true) (hr : Region.ready .any ops listed=[j]) (hB : (∀ b ∈ Zap v,b < h0 → b ∈ B) ∨ act k0 (listed.setIfInBounds j true)=false)
    (h : ∀ v' w',Own w' E k v' (xs ++ ys).length ((xs ++ ys).flatMap e) → Chg (Zap v) w w' → (Zap v' = Zap v ∨ ∃ b,Zap v' = [b] ∧ w.heap.size ≤ b) → ∀ a',Has a' n ((d,some v') :: l) → wpK P ops Q k0 (ChgF B h0 w') fuel (listed.setIfInBounds j true) a' w') :
    wpK P ops Q k0 (ChgF B h0 w) (fuel + 1) listed a w:=
  Zpa j H hi ex ey ht ht' hd' hE hv hx (Zpb h1 ys) hb h63 hd hr hB fun v' w' hO hC hb _ a' H'=>h v' w' (by rw [List.length_append,List.flatMap_append];exact hO) hC hb a' H'
end
def kB (m : Nat) (ps : List Nat) (h0 : Nat) : List Nat:=(List.range h0).filter fun k=>decide (m ≤ k ∧ k ∉ ps)
theorem Zjs {m h0 b : Nat} {ps : List Nat} (h1 : b < h0) (h2 : m ≤ b) (h3 : b ∉ ps) : b ∈ kB m ps h0:=by
  simp [kB,h1,h2,h3]
theorem Zph {m h0 b : Nat} {ps : List Nat} (h : b ∈ ps) : b ∉ kB m ps h0:=by
  simp [kB,h]
theorem Zm4 {m h0 : Nat} {ps : List Nat} : ∀ b ∈ kB m ps h0,m ≤ b:=by
  intro b hb;simp [kB] at hb;exact hb.2.1
theorem Zdm {b : Nat} : b ∉ ([] : List Nat):=by simp
theorem Xs {b c : Nat} {ps : List Nat} (h : b ≠ c) (h2 : b ∉ ps) : b ∉ c :: ps:=by simp [h,h2]
section
variable {fp : Nat → Prop} {w0 w : World} {rs : List Rs} {i j b E k n E2 k2 n2 T : Nat} {v v2 : Value} {xs xs2 cs : List Value}
theorem St.geOwn (i : Nat) (h : St NB w0 w rs) (hi : rs[i]? = some (ownR E k v n xs)) : ∀ c ∈ Zap v,w0.heap.size ≤ c:=by
  obtain⟨g,h1,h2⟩:=h.sep.get i hi;exact fun c hc=>(h2 c ((h1.2 c).2 hc)).elim False.elim id
theorem St.neOwn' (i j : Nat) (h : St fp w0 w rs) (hij : i ≠ j) (hi : rs[i]? = some (ownR E k v n xs)) (hj : rs[j]? = some (blkR b cs T)) : ∀ c ∈ Zap v,c ≠ b:=
  fun c hc e=>h.neOwn (Ne.symm hij) hj hi (e ▸ hc)
end
section
variable {P : Program} {t : TypeId} {w : World} {ad : Addr} {v : Value} {B : List Nat} {h0 o n c b : Nat} {A : Option Addr} {u : Value} {cs : List Value} {T : TypeId}
end
section
variable {P : Program} {ops : Array Oper} {Q : Exit → Act → World → Prop} {rest : List Oper} {a : Act} {n : Nat} {l : List (Nat × Option Value)} {w : World}
  {ty : TypeId} {pos : String} {af : Array Edge} {d : Nat} {v u r : Value}
variable {α : Type} {e : α → List Value} {E E2 k2 bytes : Nat} {z : List Value} {xss : List (List α)} {ys : List α} {fp : Nat → Prop} {w0 : World} {rs : List Rs}
end
section
variable {P : Program} {ops : Array Oper} {Q : Exit → Act → World → Prop} {a : Act} {n : Nat} {l : List (Nat × Option Value)} {w : World} {k0 fuel h0 : Nat} {listed : Array Bool} {B : List Nat}
  {ty : TypeId} {pos : String} {af : Array Edge} {d : Nat} {v u : Value}
variable {α : Type} {R : World → List Value → α → Prop} {E k m bytes : Nat} {z : List Value} {xs ys : List α} {css : List (List Value)} {fp : Nat → Prop} {w0 : World} {rs : List Rs}
theorem k_appD {x y : Operand} {t t' : Nat} {d' : TypeDesc} (j : Nat) (hS : St fp w0 w (deepR E k R v xs :: anyR (DIn k R css ys) :: rs)) (H : Has a n l) (hi : ops[j]? = some ⟨some d,.call { callee:=.builtin .append,args:=#[x,y],argTypes:=#[t,t'] },ty,pos,af,none⟩) (ex : lo l x=some v) (ey : lo l y=some u)
    (ht : P.underlying t=some (.slice E)) (ht' : P.underlying t' = some d') (hd' : ∀ q,d' ≠ .int q) (hE : ElemOk P E k bytes z) (hx : Src w k u ys.length css.flatten)
    (hb : (xs.length + ys.length) * bytes ≤ 140737488355328) (h63 : xs.length + ys.length ≤ maxLen) (hd : Nat.blt d n=true) (hr : Region.ready .any ops listed=[j])
    (hB : ∀ css0,St fp w0 w (ownR E k v xs.length css0 :: anyR (DIn k R css ys) :: rs) → (∀ b ∈ Zap v,b < h0 → b ∈ B) ∨ act k0 (listed.setIfInBounds j true)=false)
    (h : ∀ v' w',St fp w0 w' (deepR E k R v' (xs ++ ys) :: rs) → w.heap.size ≤ w'.heap.size → ∀ a',Has a' n ((d,some v') :: l) → wpK P ops Q k0 (ChgF B h0 w') fuel (listed.setIfInBounds j true) a' w') :
    wpK P ops Q k0 (ChgF B h0 w) (fuel + 1) listed a w:=by
  obtain⟨css0,hS1⟩:=hS.deep;have hd2 : DIn k R css ys w:=hS1.any 2 rfl;refine Zpa j H hi ex ey ht ht' hd' hE (hS1.own 0 rfl) hx hd2.one hb h63 hd hr (hB _ ((hS1.pick 1 rfl).tail)) fun v' w' hO hC hbl _ a' H'=>?_
  have hS2:=hS1.setOwn hO hC hbl;have hS3:=(St.pick 1 hS2 rfl);dsimp only [List.eraseIdx] at hS3;have hS4:=(St.pick 2 hS3 rfl);dsimp only [List.eraseIdx] at hS4;have hS5:=hS4.anyAnd.anyMono (G:=DIn k R (css0 ++ css) (xs ++ ys)) fun w'' hw=>DIn.app hw.1 hw.2
  have hS6:=(St.pick 1 hS5 rfl);dsimp only [List.eraseIdx] at hS6;refine h v' w' (St.mkDeep (css:=css0 ++ css) ?_) hC.size a' H';rw [List.length_append,List.flatten_append];exact hS6
theorem Xr (i : Nat) (hr : Region.ready .any ops listed=[i]) (h : Zps P ops Q k0 (ChgF B h0 w) fuel listed i a w) : wpK P ops Q k0 (ChgF B h0 w) (fuel + 1) listed a w:=by
  refine⟨fun h=>(by rw [hr] at h;cases h),fun q hq=>?_⟩;rw [hr] at hq;have:=List.mem_singleton.1 hq;subst this;exact h
theorem Zta (i : Nat) {f : FuncId} {x : Operand} {xs : List Operand} {tys : Array TypeId} {vs first cap : List Value} {Φ : Value → World → Prop} (H : Has a n l)
    (hi : ops[i]? = some ⟨some d,.call { callee:=.value x,args:=xs.toArray,argTypes:=tys },ty,pos,af,none⟩) (ex : lo l x=some (.func (.func f) first.toArray cap.toArray)) (e : Zke l xs=some vs) (hf : Zt P f=true)
    (hc : Calls P f (first ++ vs ++ cap).toArray w (Ret Φ)) (hd : Nat.blt d n=true) (hΦ : ∀ v w',Φ v w' → Go' B k0 h0 (listed.setIfInBounds i true) w w')
    (h : ∀ v w',Φ v w' → ∀ a',Has a' n ((d,some v) :: l) → wpK P ops Q k0 (ChgF B h0 w') fuel (listed.setIfInBounds i true) a' w') : Zps P ops Q k0 (ChgF B h0 w) fuel listed i a w:=by
  refine Zq1 i hi rfl ?_;refine Zic (f:=f) (args:=(first ++ vs ++ cap).toArray) (by
    have:=Zdh H.eval xs vs e;simp [execOp,resolve,H.eval x _ ex,Deferred.ofValue,invoke,Kb hf,this]) hc fun v w' hv=>?_
  exact⟨hΦ v w' hv,h v w' hv _ (H.put d v hd)⟩
end
section
variable {α : Type} {R : World → List Value → α → Prop} {fp : Nat → Prop} {w0 w : World} {rs : List Rs} {E k n : Nat} {v : Value}
theorem St.pureAt (i : Nat) {p : Prop} (h : St fp w0 w rs) (hi : rs[i]? = some (pureR p)) : p:=by
  obtain⟨g,h1⟩:=h.get i hi;exact h1.1
end
end Go.Proofs.YtjekfpnpfllaoaaGreatDoor
set_option linter.unusedVariables false
set_option linter.unusedSimpArgs false
set_option linter.unusedSectionVars false
namespace Go.Proofs.YtjekfpnpfllaoaaGreatDoor
open Go Go.RowKit
section
variable {P : Program} {ops : Array Oper} {Q : Exit → Act → World → Prop} {rest : List Oper} {n : Nat} {l : List (Nat × Option Value)} {lc : List (Nat × (Nat × Bool) × Value)} {w : World}
  {op : Op} {ty : TypeId} {pos : String} {af : Array Edge} {d : Nat} {v : Value}
theorem W_q (q : Q1 P (lo l) op (Ext w) v) (hd : Nat.blt d n=true) (h : ∀ a',Has a' n ((d,some v) :: l) → wpList P ops Q rest a' w) : ∀ a,Has a n l → wpList P ops Q (⟨some d,op,ty,pos,af,none⟩ :: rest) a w:=
  fun a H=>n_q H q hd h
theorem Xn {j t : Nat} {want : Bool} (hj : (ops[j]?).bind (·.dst)=some t) (ht : lk l t=some undef) (hd : Nat.blt d n=true) (h : ∀ a',Has a' n ((d,some undef) :: l) → wpList P ops Q rest a' w) :
    ∀ a,Has a n l → wpList P ops Q (⟨some d,op,ty,pos,af,some (j,want)⟩ :: rest) a w:=fun a H=>Zm1 H hj ht hd h
theorem Zl {dst : Option Nat} {j t : Nat} {want : Bool} (hj : (ops[j]?).bind (·.dst)=some t) (ht : lk l t=some (.bool want)) (h : ∀ a,Has a n l → wpList P ops Q (⟨dst,op,ty,pos,af,none⟩ :: rest) a w) :
    ∀ a,Has a n l → wpList P ops Q (⟨dst,op,ty,pos,af,some (j,want)⟩ :: rest) a w:=fun a H=>Qt H hj ht (h a H)
theorem V_q (q : Q1 P (lo l) op (Ext w) v) (hd : Nat.blt d n=true) (hk : okc ops d lc=true) (h : ∀ a',HasC ops a' n ((d,some v) :: l) lc → wpList P ops Q rest a' w) :
    ∀ a,HasC ops a n l lc → wpList P ops Q (⟨some d,op,ty,pos,af,none⟩ :: rest) a w:=fun a H=>Ti H q hd hk h
theorem V_g {g : Nat × Bool} (q : Q1 P (loc l lc g) op (Ext w) v) (hd : Nat.blt d n=true) (hk : okc ops d lc=true)
    (hg : (match (ops[g.1]?).bind (·.dst) with | some t=>!(Nat.beq t d) | none=>true)=true) (h : ∀ a',HasC ops a' n ((d,none) :: l) ((d,g,v) :: lc) → wpList P ops Q rest a' w) :
    ∀ a,HasC ops a n l lc → wpList P ops Q (⟨some d,op,ty,pos,af,some g⟩ :: rest) a w:=fun a H=>Zem H q hd hk hg h
theorem Zif {j t r : Nat} {b u : Bool} (hj : (ops[j]?).bind (·.dst)=some t) (ht : lk l t=some (.bool b)) (hr : loc l lc (j,true) (.tmp r)=some (.bool u)) (hd : Nat.blt d n=true) (hk : okc ops d lc=true)
    (h : ∀ a',HasC ops a' n ((d,some (.bool (b && u))) :: l) lc → wpList P ops Q rest a' w) :
    ∀ a,HasC ops a n l lc → wpList P ops Q (⟨some d,.pick (.tmp t) (.tmp r) (.const (.bool false)),ty,pos,af,none⟩ :: rest) a w:=fun a H=>Zo6 H hj ht hr hd hk h
theorem Zfy {j t r : Nat} {b u : Bool} (hj : (ops[j]?).bind (·.dst)=some t) (ht : lk l t=some (.bool b)) (hr : loc l lc (j,false) (.tmp r)=some (.bool u)) (hd : Nat.blt d n=true) (hk : okc ops d lc=true)
    (h : ∀ a',HasC ops a' n ((d,some (.bool (b || u))) :: l) lc → wpList P ops Q rest a' w) :
    ∀ a,HasC ops a n l lc → wpList P ops Q (⟨some d,.pick (.tmp t) (.const (.bool true)) (.tmp r),ty,pos,af,none⟩ :: rest) a w:=fun a H=>Zlm H hj ht hr hd hk h
end
end Go.Proofs.YtjekfpnpfllaoaaGreatDoor
set_option linter.unusedVariables false
set_option linter.unusedSimpArgs false
set_option linter.unusedSectionVars false
namespace Go.Proofs.YtjekfpnpfllaoaaGreatDoor
open Go Go.RowKit
section
variable {P : Program} {ops : Array Oper} {Q : Exit → Act → World → Prop} {a : Act} {n : Nat} {l : List (Nat × Option Value)} {w : World} {B : List Nat} {k0 h0 fuel : Nat} {listed : Array Bool}
theorem k_mid4 (H0 : Has a n l) (fuel' : Nat) (i1 i2 i3 i4 : Nat) (L : List (Nat × Value)) (R : World → Prop)
    (h1 : (∀ l' a w,Has a n l' → Sub L l' → R w → wpK P ops Q k0 (ChgF B h0 w) fuel' ((((listed.setIfInBounds i1 true).setIfInBounds i2 true).setIfInBounds i3 true).setIfInBounds i4 true) a w) → wpK P ops Q k0 (ChgF B h0 w) fuel listed a w)
    (h2 : ∀ a w,Has a n (ent L) → R w → wpK P ops Q k0 (ChgF B h0 w) fuel' ((((listed.setIfInBounds i1 true).setIfInBounds i2 true).setIfInBounds i3 true).setIfInBounds i4 true) a w) : wpK P ops Q k0 (ChgF B h0 w) fuel listed a w:=
  h1 fun l' a w H hs hR=>h2 a w (H.sub _ hs) hR
theorem k_mid7 (H0 : Has a n l) (fuel' : Nat) (i1 i2 i3 i4 i5 i6 i7 : Nat) (L : List (Nat × Value)) (R : World → Prop)
    (h1 : (∀ l' a w,Has a n l' → Sub L l' → R w → wpK P ops Q k0 (ChgF B h0 w) fuel' (((((((listed.setIfInBounds i1 true).setIfInBounds i2 true).setIfInBounds i3 true).setIfInBounds i4 true).setIfInBounds i5 true).setIfInBounds i6 true).setIfInBounds i7 true) a w) → wpK P ops Q k0 (ChgF B h0 w) fuel listed a w)
    (h2 : ∀ a w,Has a n (ent L) → R w → wpK P ops Q k0 (ChgF B h0 w) fuel' (((((((listed.setIfInBounds i1 true).setIfInBounds i2 true).setIfInBounds i3 true).setIfInBounds i4 true).setIfInBounds i5 true).setIfInBounds i6 true).setIfInBounds i7 true) a w) : wpK P ops Q k0 (ChgF B h0 w) fuel listed a w:=
  h1 fun l' a w H hs hR=>h2 a w (H.sub _ hs) hR
theorem Zrg (H0 : Has a n l) (fuel' : Nat) (i1 i2 i3 i4 i5 i6 i7 i8 : Nat) (L : List (Nat × Value)) (R : World → Prop)
    (h1 : (∀ l' a w,Has a n l' → Sub L l' → R w → wpK P ops Q k0 (ChgF B h0 w) fuel' ((((((((listed.setIfInBounds i1 true).setIfInBounds i2 true).setIfInBounds i3 true).setIfInBounds i4 true).setIfInBounds i5 true).setIfInBounds i6 true).setIfInBounds i7 true).setIfInBounds i8 true) a w) → wpK P ops Q k0 (ChgF B h0 w) fuel listed a w)
    (h2 : ∀ a w,Has a n (ent L) → R w → wpK P ops Q k0 (ChgF B h0 w) fuel' ((((((((listed.setIfInBounds i1 true).setIfInBounds i2 true).setIfInBounds i3 true).setIfInBounds i4 true).setIfInBounds i5 true).setIfInBounds i6 true).setIfInBounds i7 true).setIfInBounds i8 true) a w) : wpK P ops Q k0 (ChgF B h0 w) fuel listed a w:=
  h1 fun l' a w H hs hR=>h2 a w (H.sub _ hs) hR
end
section
variable {fp : Nat → Prop} {w0 w : World} {rs : List Rs} {r0 r1 r2 r3 r4 r5 r6 r7 r8 r9 r10 r11 : Rs}
theorem St.tk0 (h : St fp w0 w (rs)) : St fp w0 w []:=h.take 0
theorem St.tk1 (h : St fp w0 w (r0 :: rs)) : St fp w0 w [r0]:=h.take 1
theorem St.tk2 (h : St fp w0 w (r0 :: r1 :: rs)) : St fp w0 w [r0,r1]:=h.take 2
theorem St.tk5 (h : St fp w0 w (r0 :: r1 :: r2 :: r3 :: r4 :: rs)) : St fp w0 w [r0,r1,r2,r3,r4]:=h.take 5
theorem St.tk6 (h : St fp w0 w (r0 :: r1 :: r2 :: r3 :: r4 :: r5 :: rs)) : St fp w0 w [r0,r1,r2,r3,r4,r5]:=h.take 6
theorem St.tk8 (h : St fp w0 w (r0 :: r1 :: r2 :: r3 :: r4 :: r5 :: r6 :: r7 :: rs)) : St fp w0 w [r0,r1,r2,r3,r4,r5,r6,r7]:=h.take 8
theorem St.tk9 (h : St fp w0 w (r0 :: r1 :: r2 :: r3 :: r4 :: r5 :: r6 :: r7 :: r8 :: rs)) : St fp w0 w [r0,r1,r2,r3,r4,r5,r6,r7,r8]:=h.take 9
theorem St.pk1 (h : St fp w0 w (r0 :: r1 :: rs)) : St fp w0 w (r1 :: r0 :: rs):=h.pick 1 rfl
theorem St.pk2 (h : St fp w0 w (r0 :: r1 :: r2 :: rs)) : St fp w0 w (r2 :: r0 :: r1 :: rs):=h.pick 2 rfl
theorem St.pk3 (h : St fp w0 w (r0 :: r1 :: r2 :: r3 :: rs)) : St fp w0 w (r3 :: r0 :: r1 :: r2 :: rs):=h.pick 3 rfl
theorem St.pk4 (h : St fp w0 w (r0 :: r1 :: r2 :: r3 :: r4 :: rs)) : St fp w0 w (r4 :: r0 :: r1 :: r2 :: r3 :: rs):=h.pick 4 rfl
theorem St.pk5 (h : St fp w0 w (r0 :: r1 :: r2 :: r3 :: r4 :: r5 :: rs)) : St fp w0 w (r5 :: r0 :: r1 :: r2 :: r3 :: r4 :: rs):=h.pick 5 rfl
theorem St.pk6 (h : St fp w0 w (r0 :: r1 :: r2 :: r3 :: r4 :: r5 :: r6 :: rs)) : St fp w0 w (r6 :: r0 :: r1 :: r2 :: r3 :: r4 :: r5 :: rs):=h.pick 6 rfl
theorem St.pk7 (h : St fp w0 w (r0 :: r1 :: r2 :: r3 :: r4 :: r5 :: r6 :: r7 :: rs)) : St fp w0 w (r7 :: r0 :: r1 :: r2 :: r3 :: r4 :: r5 :: r6 :: rs):=h.pick 7 rfl
theorem St.pk8 (h : St fp w0 w (r0 :: r1 :: r2 :: r3 :: r4 :: r5 :: r6 :: r7 :: r8 :: rs)) : St fp w0 w (r8 :: r0 :: r1 :: r2 :: r3 :: r4 :: r5 :: r6 :: r7 :: rs):=h.pick 8 rfl
theorem St.pk9 (h : St fp w0 w (r0 :: r1 :: r2 :: r3 :: r4 :: r5 :: r6 :: r7 :: r8 :: r9 :: rs)) : St fp w0 w (r9 :: r0 :: r1 :: r2 :: r3 :: r4 :: r5 :: r6 :: r7 :: r8 :: rs):=h.pick 9 rfl
theorem St.pk10 (h : St fp w0 w (r0 :: r1 :: r2 :: r3 :: r4 :: r5 :: r6 :: r7 :: r8 :: r9 :: r10 :: rs)) : St fp w0 w (r10 :: r0 :: r1 :: r2 :: r3 :: r4 :: r5 :: r6 :: r7 :: r8 :: r9 :: rs):=h.pick 10 rfl
end
end Go.Proofs.YtjekfpnpfllaoaaGreatDoor
set_option linter.unusedVariables false
set_option linter.unusedSimpArgs false
set_option linter.unusedSectionVars false
namespace Go.Proofs.YtjekfpnpfllaoaaGreatDoor
open Go Go.RowKit
section
variable {P : Program} {L : Operand → Option Value} {C : World → Prop} {x : Operand}
end
def cpyL (v : List UInt8) (s : ByteArray) : List UInt8:=s.data.toList.take v.length ++ v.drop s.size
theorem Ztb (v : List UInt8) (s : ByteArray) : (cpyL v s).length=v.length:=by
  have : s.data.toList.length=s.size:=by simp [ByteArray.size_data]
  simp only [cpyL,List.length_append,List.length_take,List.length_drop,this];omega
def cpyV {n : Nat} (v : Vector UInt8 n) (s : ByteArray) : Vector UInt8 n:=⟨(cpyL v.toList s).toArray,by simp [Ztb]⟩
theorem Zrh {n : Nat} (v : Vector UInt8 n) (s : ByteArray) : (cpyV v s).toList=cpyL v.toList s:=by simp [cpyV]
section
variable {P : Program} {ops : Array Oper} {Q : Exit → Act → World → Prop} {a : Act} {n : Nat} {l : List (Nat × Option Value)} {w : World} {B : List Nat} {k0 h0 fuel : Nat} {listed : Array Bool} {ty : TypeId} {pos : String} {af : Array Edge} {d : Nat}
end
theorem Ze9 {k : Nat} {v : Value} {zs ds : List Value} (h : v.cells=ds.toArray) (hd : ds.length=k) (hz : zs.length=k) : Instr.fill (fun i=>some (i * k,k)) ((List.replicate 1 zs).flatten).toArray [(0,v)]=some ds.toArray:=by
  have e : (List.replicate 1 zs).flatten=zs:=by simp
  rw [e,Zkj (ds:=ds) (n:=k) (off:=0) h hd (by simp) (by omega),List.take_zero,List.nil_append,Nat.zero_add,List.drop_of_length_le (by omega),List.append_nil];rfl
end Go.Proofs.YtjekfpnpfllaoaaGreatDoor
set_option linter.unusedVariables false
set_option linter.unusedSimpArgs false
set_option linter.unusedSectionVars false
namespace Go.Proofs.YtjekfpnpfllaoaaGreatDoor
open Go Go.RowKit
theorem Ztc {s : ByteArray} {z c : Int} (h : rdS s z=some c) : c=((Wt c).toNat : Int):=by
  obtain⟨h0,h1,rfl⟩:=Zpf h;rw [Zec];have:=(s[z.toNat]'h1).toNat_lt;omega
theorem Zlx {α : Type} {n k : Nat} {pre : List Value} {u : Value} (hp : pre.length=k) (v : Vector α n) (f : α → Value) (i : Nat) (y : α) (hu : u=f y) : (pre ++ v.toList.map f).set (k + i) u=pre ++ (v.setIfInBounds i y).toList.map f:=by
  subst hu hp;rw [List.set_append_right _ _ (by omega),Nat.add_sub_cancel_left,Zu8]
section
variable {P : Program} {ops : Array Oper} {Q : Exit → Act → World → Prop} {rest : List Oper} {a : Act} {n : Nat} {l : List (Nat × Option Value)} {w : World} {B : List Nat} {k0 h0 : Nat}
  {op : Op} {ty : TypeId} {pos : String} {af : Array Edge} {d fuel : Nat} {listed : Array Bool} {α : Type} {e : α → List Value} {E k i j o c n0 : Nat} {v u : Value} {xs : List α} {x0 x' : α} {ad : Addr} {A : Option Addr} {t : TypeId} {x y : Operand}
theorem Zpi (y : α) (h : xs[i]? = some x0) : (xs.set i y)[i]? = some y:=by
  have:=(List.getElem?_eq_some_iff.1 h).1;simp [this]
theorem Zri (q : Nat) (H : Has a n l) (hq : ops[q]? = some ⟨none,.store t x y,ty,pos,af,none⟩) (ex : lo l x=some (.pointer (some (ad.add (i * k))))) (ey : lo l y=some u) (hs : Xb P t=some k) (hO : Own w E k v xs.length (xs.flatMap e)) (hv : v=.slice A n0 c) (hA : A=some ad) (hi : i < xs.length)
    (hu : u.cells=(e x').toArray) (h1 : ∀ c ∈ e x',c.oneCell' = true) (hl : ∀ z,(e z).length=k) (hr : Region.ready .any ops listed=[q]) (hB : (∀ b ∈ Zap v,b < h0 → b ∈ B) ∨ act k0 (listed.setIfInBounds q true)=false)
    (h : ∀ w',Own w' E k v (xs.set i x').length ((xs.set i x').flatMap e) → Chg (Zap v) w w' → ∀ a',Has a' n l → wpK P ops Q k0 (ChgF B h0 w') fuel (listed.setIfInBounds q true) a' w') :
    wpK P ops Q k0 (ChgF B h0 w) (fuel + 1) listed a w:=by
  rcases hO with ⟨rfl,hz,_⟩ | ⟨b,cap,cs,rfl,hBl,h2,h3,h4,h5,h6⟩
  · omega
  · cases hv;cases hA
    rw [Yx] at ex;have hik : i * k + k ≤ xs.length * k:=by
      have:=Nat.mul_le_mul_right k (show i + 1 ≤ xs.length from hi)
      rwa [Nat.succ_mul] at this
    have hc:=Nat.mul_le_mul_right k h2;refine Zn9 (vs:=e x') q H hq ex ey hu (by rw [hs,hl]) hBl (by rw [hl];omega) h1 hr (hB.imp (fun f hlt=>f b (by simp [Zap]) hlt) id) fun w' hB' hC _ a' H'=>?_
    refine h w' ?_ (by simpa [Zap] using hC) a' H';have:=Own.splice (vs:=e x') (o:=i * k) h2 h3 h4 h6 h5 (by rw [hl];omega) hB';rw [Zjn hl x' xs i hi] at this;rw [List.length_set];exact this
theorem Zlf (q : Nat) (H : Has a n l) (hq : ops[q]? = some ⟨none,.store t x y,ty,pos,af,none⟩) (ex : lo l x=some (.pointer (some ((ad.add (i * k)).add j)))) (ey : lo l y=some u) (hs : Xb P t=some 1) (hO : Own w E k v xs.length (xs.flatMap e)) (hv : v=.slice A n0 c) (hA : A=some ad) (hx : xs[i]? = some x0)
    (hu : e x' = (e x0).set j u) (hl : ∀ z,(e z).length=k) (hj : j < k) (h1 : u.oneCell' = true) (hr : Region.ready .any ops listed=[q]) (hB : (∀ b ∈ Zap v,b < h0 → b ∈ B) ∨ act k0 (listed.setIfInBounds q true)=false)
    (h : ∀ w',Own w' E k v (xs.set i x').length ((xs.set i x').flatMap e) → Chg (Zap v) w w' → ∀ a',Has a' n l → wpK P ops Q k0 (ChgF B h0 w') fuel (listed.setIfInBounds q true) a' w') :
    wpK P ops Q k0 (ChgF B h0 w) (fuel + 1) listed a w:=by
  have hi:=(List.getElem?_eq_some_iff.1 hx).1
  rcases id hO with ⟨rfl,hz,_⟩ | ⟨b,cap,cs,rfl,hBl,h2,h3,h4,h5,h6⟩
  · omega
  · cases hv;cases hA
    rw [Yx,Tj] at ex;have hik : i * k + k ≤ xs.length * k:=by
      have:=Nat.mul_le_mul_right k (show i + 1 ≤ xs.length from hi)
      rwa [Nat.succ_mul] at this
    obtain⟨cs',hb',g2,g3,g4,g5,g6⟩:=hO.blk;have hc : xs.length * k ≤ c * k:=Nat.mul_le_mul_right k g2;refine Zbt q H hq ex ey hs hb' (by omega) h1 hr (hB.imp (fun f hlt=>f b (by simp [Zap]) hlt) id) fun w' hB hC hz a' H'=>h w' ?_ (by simpa [Zap] using hC) a' H'
    have hO' : Own w' E k (.slice (some ⟨b,0,none⟩) xs.length c) xs.length ((xs.flatMap e).set (i * k + j) u):=by
      refine Own.ofBlk' hB g2 g3 (by simpa using g4) ?_ (by simpa using g5);rw [List.take_set,g6]
    rw [Zjm hl xs i j x0 u hx hj x' hu] at hO';rw [List.length_set];exact hO'
theorem Zlg (q : Nat) (H : Has a n l) (hq : ops[q]? = some ⟨none,.store t x y,ty,pos,af,none⟩) (ex : lo l x=some (.pointer (some (((ad.add (i * k)).add o).add j)))) (ey : lo l y=some u) (hs : Xb P t=some 1) (hO : Own w E k v xs.length (xs.flatMap e)) (hv : v=.slice A n0 c) (hA : A=some ad) (hx : xs[i]? = some x0)
    (hu : e x' = (e x0).set (o + j) u) (hl : ∀ z,(e z).length=k) (hj : o + j < k) (h1 : u.oneCell' = true) (hr : Region.ready .any ops listed=[q]) (hB : (∀ b ∈ Zap v,b < h0 → b ∈ B) ∨ act k0 (listed.setIfInBounds q true)=false)
    (h : ∀ w',Own w' E k v (xs.set i x').length ((xs.set i x').flatMap e) → Chg (Zap v) w w' → ∀ a',Has a' n l → wpK P ops Q k0 (ChgF B h0 w') fuel (listed.setIfInBounds q true) a' w') :
    wpK P ops Q k0 (ChgF B h0 w) (fuel + 1) listed a w:=by
  rw [Zdg] at ex;exact Zlf q H hq ex ey hs hO hv hA hx hu hl hj h1 hr hB h
end
section
variable {P : Program} {ops : Array Oper} {Q : Exit → Act → World → Prop} {k0 : Nat} {S : World → Prop}
def aftM : List (Edge) → Nat
  | []=>0
  | e :: r=>if Region.binds .any e=true then aftM r ||| 2 ^ e.on else aftM r
def opM (ops : Array Oper) (j : Nat) : Nat:=match ops[j]? with
  | none=>0
  | some o=>aftM o.after.toList
def Ztd (ops : Array Oper) (M : Nat) : List Nat → Nat → Nat
  | [],z=>z
  | j :: r,z=>Ztd ops M r (if M.testBit j=true then z ||| opM ops j else z)
def Zis (ops : Array Oper) (k0 : Nat) : Nat → Nat
  | 0=>2 ^ k0
  | f + 1=>Ztd ops (Zis ops k0 f) (List.range ops.size) (Zis ops k0 f)
def Zpj (ops : Array Oper) (listed : Array Bool) : Prop:=∀ j o,ops[j]? = some o → listed.getD j false=true → ∀ e ∈ o.after,Region.binds .any e=true → listed.getD e.on false=true
def Zod (ops : Array Oper) (listed : Array Bool) : Bool:=(List.range ops.size).all fun j=>!(listed.getD j false) || (match ops[j]? with
  | none=>true
  | some o=>o.after.toList.all fun e=>!(Region.binds .any e) || listed.getD e.on false)
theorem Zm5 {listed : Array Bool} (h : Zod ops listed=true) : Zpj ops listed:=by
  intro j o ho hl e he hb;have hj : j < ops.size:=(Array.getElem?_eq_some_iff.1 ho).1;have:=List.all_eq_true.1 h j (List.mem_range.2 hj);rw [hl,ho] at this;simp only [Bool.not_true,Bool.false_or] at this;have:=List.all_eq_true.1 this e (by simpa using he);rw [hb] at this
  simpa using this
theorem Zly : ∀ {l : List Edge} {i : Nat},(aftM l).testBit i=true → ∃ e ∈ l,Region.binds .any e=true ∧ e.on=i
  | [],i,h=>by simp [aftM] at h
  | e :: r,i,h=>by
    unfold aftM at h;split at h
    · rename_i hb
      rw [Nat.testBit_or,Bool.or_eq_true] at h
      rcases h with h|h
      · obtain⟨e',h1,h2⟩:=Zly h;exact⟨e',List.mem_cons_of_mem _ h1,h2⟩
      · refine⟨e,List.mem_cons_self ..,hb,?_⟩;rw [Nat.testBit_two_pow] at h;exact of_decide_eq_true h
    · obtain⟨e',h1,h2⟩:=Zly h;exact⟨e',List.mem_cons_of_mem _ h1,h2⟩
theorem Zm6 {G : Nat → Prop} {M : Nat} (h : ∀ j,M.testBit j=true → ∀ i,(opM ops j).testBit i=true → G i) : ∀ (l : List Nat) (z : Nat),(∀ i,z.testBit i=true → G i) → ∀ i,(Ztd ops M l z).testBit i=true → G i
  | [],z,hz=>hz
  | j :: r,z,hz=>by
    rw [Ztd];refine Zm6 h r _ fun i hi=>?_
    split at hi
    · rename_i hj
      rw [Nat.testBit_or,Bool.or_eq_true] at hi
      rcases hi with hi|hi
      · exact hz i hi
      · exact h j hj i hi
    · exact hz i hi
theorem Zga {listed : Array Bool} {o0 : Oper} (hc : Zpj ops listed) (h0 : ops[k0]? = some o0) (hp : ∀ e ∈ o0.after,Region.binds .any e=true → listed.getD e.on false=true) : ∀ (f i : Nat),(Zis ops k0 f).testBit i=true → i=k0 ∨ listed.getD i false=true
  | 0,i,h=>by
    rw [Zis,Nat.testBit_two_pow] at h;exact .inl (of_decide_eq_true h).symm
  | f + 1,i,h=>by
    rw [Zis] at h;refine Zm6 (G:=fun i=>i=k0 ∨ listed.getD i false=true) (fun j hj i hi=>?_) _ _ (fun i hi=>Zga hc h0 hp f i hi) i h;have hr:=Zga hc h0 hp f j hj;unfold opM at hi;cases ho : ops[j]? with
    | none=>rw [ho] at hi;simp at hi
    | some o=>
      rw [ho] at hi;obtain⟨e,h1,h2,rfl⟩:=Zly hi
      rcases hr with rfl|hr
      · rw [h0] at ho;cases ho
        exact .inr (hp e (by simpa using h1) h2)
      · exact .inr (hc j o ho hr e (by simpa using h1) h2)
theorem Zpx {i f : Nat} {oi : Oper} {v : Value} (hi : ops[i]? = some oi) (hsel : ∀ (j : Nat) (o : Oper) cs b,ops[j]? = some o → o.op ≠ .select cs b)
    (hQ : ∀ c a w,Q (.panic c) (a.put oi.dst v) w → Q (.panic c) a w) (hb : (Zis ops k0 f).testBit i=true) (hne : i ≠ k0) :
    ∀ (fuel : Nat) (listed : Array Bool) (a : Act) (w : World),act k0 listed=true → listed.size=ops.size → Zpj ops listed →
      (∀ j oj,ops[j]? = some oj → j ≠ i → listed.getD j true=false → (∀ e ∈ oj.after,Region.binds .any e=true → e.on ≠ i) → oi.apart ops oj=true) →
      i ∈ Region.ready .any ops listed → YieldsIf P ops S oi v a → S w →
      wpK P ops Q k0 S fuel (listed.setIfInBounds i true) (a.put oi.dst v) w → wpK P ops Q k0 S (fuel + 1) listed a w:=by
  intro fuel
  induction fuel with
  | zero=>
    intro listed a w hk hsz _ _ hr hy hS H;refine⟨fun h=>(by rw [h] at hr;cases hr),fun j hj=>?_⟩
    by_cases hji : j=i
    · subst hji;exact hy.wpOp hi hS ⟨fun _=>hS,H⟩
    · have:=ready_mono hj hji;rw [H.1] at this;cases this
  | succ fuel ih=>
    intro listed a w hk hsz hcl hfree hr hy hS H;refine⟨fun h=>(by rw [h] at hr;cases hr),fun j hj=>?_⟩
    by_cases hji : j=i
    · subst hji;exact hy.wpOp hi hS ⟨fun _=>hS,H⟩
    · have h1:=H.2 j (ready_mono hj hji);obtain⟨hjun,oj,hoj,hall⟩:=mem_ready.1 hj;have hun : listed.getD i false=false:=by
        have h0:=(mem_ready.1 hr).1
        rcases Nat.lt_or_ge i listed.size with h'|h'
        · simpa [h'] using h0
        · simp [Array.getElem?_eq_none h']
      have hnot : ∀ e ∈ oj.after,Region.binds .any e=true → e.on ≠ i:=fun e he hb heq=>by
        have h1:=hall e he hb;rw [heq,hun] at h1;cases h1
      have hjk : j ≠ k0:=fun e=>by
        subst e
        rcases Zga hcl hoj hall f i hb with e|e
        · exact hne e
        · rw [hun] at e;cases e
      have h2:=wpOp_putIf hoj (hfree j oj hoj hji hjun hnot) (fun cs b=>hsel i oi cs b hi) (fun cs b=>hsel j oj cs b hoj) hQ hy h1;have hfree' : ∀ k ok,ops[k]? = some ok → k ≠ i → (listed.setIfInBounds j true).getD k true=false →
          (∀ e ∈ ok.after,Region.binds .any e=true → e.on ≠ i) → oi.apart ops ok=true:=fun k ok hk hki hun hno=>by
        refine hfree k ok hk hki ?_ hno
        by_cases hjk : j=k
        · subst hjk;exact hjun
        · rw [getD_set_ne true hjk] at hun;exact hun
      have up : ∀ x,listed.getD x false=true → (listed.setIfInBounds j true).getD x false=true:=fun x hx=>by
        by_cases hjx : j=x
        · subst hjx
          rcases Nat.lt_or_ge j listed.size with h'|h'
          · simp [h']
          · simp [Array.getElem?_eq_none h'] at hx
        · rw [getD_set_ne false hjx];exact hx
      have hcl' : Zpj ops (listed.setIfInBounds j true):=fun x o ho hx e he hbe=>by
        by_cases hjx : j=x
        · subst hjx;rw [hoj] at ho;cases ho
          exact up _ (hall e he hbe)
        · rw [getD_set_ne false hjx] at hx;exact up _ (hcl x o ho hx e he hbe)
      have hk' : act k0 (listed.setIfInBounds j true)=true:=by
        unfold act at *
        rwa [getD_set_ne false hjk]
      have hk2 : act k0 ((listed.setIfInBounds i true).setIfInBounds j true)=true:=by
        unfold act at *;rw [getD_set_ne false hjk,getD_set_ne false hne];exact hk
      refine wpOp_mono (fun a' w' h3=>⟨fun _=>h3.2.1 hk2,ih (listed.setIfInBounds j true) a' w' hk' (by simpa using hsz) hcl' hfree' (ready_mono hr (Ne.symm hji)) h3.1 (h3.2.1 hk2) ?_⟩) h2;rw [Array.setIfInBounds_comm _ _ hji];exact h3.2.2
end
section
variable {P : Program} {ops : Array Oper} {Q : Exit → Act → World → Prop} {a : Act} {n : Nat} {l : List (Nat × Option Value)} {w : World} {B : List Nat} {k0 h0 : Nat}
  {op : Op} {ty : TypeId} {pos : String} {af : Array Edge} {d fuel : Nat} {v : Value} {listed : Array Bool}
theorem Zva (i f : Nat) (H : Has a n l) (hi : ops[i]? = some ⟨some d,op,ty,pos,af,none⟩) (q : Q1 P (lo l) op (ChgF B h0 w) v) (hd : Nat.blt d n=true) (hs : Region.noSelect ops=true) (hf : Region.free .any ops listed i=true)
    (hr : (Region.ready .any ops listed).contains i=true) (hb : ((Zis ops k0 f).testBit i && !(Nat.beq i k0) && act k0 listed && (Nat.beq listed.size ops.size) && Zod ops listed)=true) (hQ : ∀ c a w,Q (.panic c) (a.put (some d) v) w → Q (.panic c) a w)
    (h : ∀ a',Has a' n ((d,some v) :: l) → wpK P ops Q k0 (ChgF B h0 w) fuel (listed.setIfInBounds i true) a' w) : wpK P ops Q k0 (ChgF B h0 w) (fuel + 1) listed a w:=by
  simp only [Bool.and_eq_true,Bool.not_eq_true'] at hb;obtain⟨⟨⟨⟨h1,h2⟩,h3⟩,h4⟩,h5⟩:=hb;exact Zpx (oi:=⟨some d,op,ty,pos,af,none⟩) (v:=v) hi (Region.noSelect_spec hs) hQ h1 (fun e=>by rw [e,Nat.beq_refl] at h2;cases h2) fuel listed a w h3 (Nat.eq_of_beq_eq_true h4) (Zm5 h5) (Region.free_spec hi hf) (by simpa using hr)
    (.inl ⟨by simp [Region.wanted],fun w' hw=>q a.eval H.eval w' hw (some d) ty pos af none⟩) (ChgF.refl _ _ _) (h _ (H.put d v hd))
end
end Go.Proofs.YtjekfpnpfllaoaaGreatDoor
set_option linter.unusedVariables false
set_option linter.unusedSimpArgs false
set_option linter.unusedSectionVars false
namespace Go.Proofs.YtjekfpnpfllaoaaGreatDoor
open Go Go.RowKit
structure RawC (k : Nat) where
  cs : List Value
  len : cs.length=k
  one : ∀ u ∈ cs,u.oneCell' = true
def Zte {k : Nat} (c : RawC k) : List Value:=c.cs
theorem Ztf {k : Nat} (z : RawC k) : ∀ u ∈ Zte z,u.oneCell' = true:=z.one
theorem Ztg {k : Nat} (z : RawC k) : (Zte z).length=k:=z.len
section
variable {α : Type} {R : World → List Value → α → Prop} {E k n : Nat} {v u : Value} {xs : List α} {x : α} {fp : Nat → Prop} {w0 w w' : World} {rs : List Rs}
theorem SlR.raw (hone : ∀ w cs x,R w cs x → ∀ u ∈ cs,u.oneCell' = true) (h : SlR w k R v xs) : ∃ ys : List (RawC k),SlR w k (Qs Zte) v ys ∧ DIn k R (ys.map RawC.cs) xs w ∧ ys.length=xs.length:=by
  obtain⟨A,c,rfl,h1,h2,h3,h4⟩:=h;cases A with
  | none=>
    obtain⟨rfl,rfl⟩:=h3 rfl;exact⟨[],SlR.nil _ _ _,trivial,rfl⟩
  | some ad=>
    have key : ∀ (ys : List α) (o : Nat),(∀ i x,ys[i]? = some x → xs[o + i]? = some x) → ∃ rs : List (RawC k),rs.length=ys.length ∧ DIn k R (rs.map RawC.cs) ys w ∧ ∀ (i : Nat) (r : RawC k),rs[i]? = some r → ∀ j u,r.cs[j]? = some u → w.cell? (ad.add ((o + i) * k + j))=some u:=by
      intro ys
      induction ys with
      | nil=>intro o _;exact⟨[],rfl,trivial,fun i r h=>by simp at h⟩
      | cons y ys ih=>
        intro o ho;obtain⟨cs,g1,g2,g3⟩:=h4 ad rfl o y (ho 0 y rfl);obtain⟨rs,k1,k2,k3⟩:=ih (o + 1) (fun i x hx=>by have:=ho (i + 1) x (by simpa using hx);rw [Nat.add_assoc,Nat.add_comm 1 i];exact this);refine⟨⟨cs,g1,hone _ _ _ g2⟩ :: rs,by simp [k1],⟨⟨g1,hone _ _ _ g2,g2⟩,k2⟩,fun i r hr j u hu=>?_⟩;cases i with
        | zero=>simp at hr;subst hr;exact g3 j u hu
        | succ i=>
          have:=k3 i r (by simpa using hr) j u hu
          rwa [show o + 1 + i=o + (i + 1) by omega] at this
    obtain⟨ys,k1,k2,k3⟩:=key xs 0 (fun i x hx=>by simpa using hx);refine⟨ys,⟨some ad,c,by rw [k1],by rw [k1];exact h1,h2,(by intro h;cases h),fun ad' ha i r hr=>?_⟩,k2,k1⟩;cases ha
    exact⟨r.cs,r.len,rfl,fun j u hu=>by have:=k3 i r hr j u hu;simpa using this⟩
theorem DIn.get {x : α} : ∀ {css : List (List Value)} {xs : List α} {i : Nat},DIn k R css xs w → xs[i]? = some x → ∃ cs,css[i]? = some cs ∧ cs.length=k ∧ (∀ u ∈ cs,u.oneCell' = true) ∧ R w cs x
  | [],[],i,_,h=>by simp at h
  | cs :: css,y :: xs,0,⟨⟨h1,h2,h3⟩,_⟩,h=>by simp at h;subst h;exact⟨cs,rfl,h1,h2,h3⟩
  | cs :: css,y :: xs,i + 1,⟨_,h4⟩,h=>by
    obtain⟨c,g1,g2⟩:=DIn.get (i:=i) h4 (by simpa using h);exact⟨c,by simpa using g1,g2⟩
  | [],y :: xs,i,h,_=>h.elim
  | cs :: css,[],i,h,_=>h.elim
theorem DIn.drop : ∀ {j : Nat} {css : List (List Value)} {xs : List α},DIn k R css xs w → DIn k R (css.drop j) (xs.drop j) w
  | 0,_,_,h=>h
  | j + 1,[],[],_=>trivial
  | j + 1,c :: css,x :: xs,⟨_,h⟩=>DIn.drop (j := j) h
  | j + 1,[],x :: xs,h=>h.elim
  | j + 1,c :: css,[],h=>h.elim
def copR (w0 : World) (E k : Nat) (R : World → List Value → α → Prop) (v : Value) (xs : List α) (c : Nat) : Rs:=
  exR fun css : List (List Value)=>starR [ownR E k v xs.length css.flatten,anyR (DIn k R (css.take c) (xs.take c)),pureR (DIn k R (css.drop c) (xs.drop c) w0)]
theorem St.mkCop {c : Nat} {css : List (List Value)} (hp : DIn k R (css.drop c) (xs.drop c) w0) (h : St fp w0 w (ownR E k v xs.length css.flatten :: anyR (DIn k R (css.take c) (xs.take c)) :: rs)) : St fp w0 w (copR w0 E k R v xs c :: rs):=by
  have h2:=h.mkPure hp;refine St.mkEx (f:=fun css : List (List Value)=>starR [ownR E k v xs.length css.flatten,anyR (DIn k R (css.take c) (xs.take c)),pureR (DIn k R (css.drop c) (xs.drop c) w0)]) css ?_;have h3:=(h2.pick 1 rfl).pick 2 rfl;dsimp only [List.eraseIdx] at h3;have h4:=(h3.pick 1 rfl);dsimp only [List.eraseIdx] at h4;exact St.fold [_,_,_] h4
theorem St.cop {c : Nat} (h : St fp w0 w (copR w0 E k R v xs c :: rs)) : ∃ css : List (List Value),DIn k R (css.drop c) (xs.drop c) w0 ∧ St fp w0 w (ownR E k v xs.length css.flatten :: anyR (DIn k R (css.take c) (xs.take c)) :: rs):=by
  obtain⟨css,h⟩:=h.ex;have h2:=h.star;obtain⟨hp,h3⟩:=(h2.pick 2 rfl).pure;exact⟨css,hp,h3⟩
theorem St.toCop {ys : List (RawC k)} (hD : DIn k R (ys.map RawC.cs) xs w0) (h : St fp w0 w (ownR E k v ys.length (ys.flatMap Zte) :: rs)) : St fp w0 w (copR w0 E k R v xs 0 :: rs):=by
  have hl : ys.length=xs.length:=by have:=hD.len;simpa using this
  refine St.mkCop (css:=ys.map RawC.cs) (by simpa using hD) ?_;have h2:=(h.trivAny (F:=DIn k R [] []) fun _=>trivial).pick 1 rfl;dsimp only [List.eraseIdx] at h2;have e : ys.flatMap Zte=(ys.map RawC.cs).flatten:=by rw [List.flatMap];rfl
  rw [hl,e] at h2
  simpa using h2
theorem St.copSl (i : Nat) {c : Nat} (h : St NB w0 w rs) (hi : rs[i]? = some (copR w0 E k R v xs c)) (hR : Zpr R) : SlR w k R v xs:=by
  have h1:=h.pick i hi;obtain⟨css,hp,h2⟩:=h1.cop;have hO:=h2.own 0 rfl;have hA : DIn k R (css.take c) (xs.take c) w:=h2.any 1 rfl;have hB : DIn k R (css.drop c) (xs.drop c) w:=hp.mono hR h.x.agr;have:=DIn.app hB hA;rw [List.take_append_drop,List.take_append_drop] at this;exact hO.slD this rfl
theorem St.copDeep {c : Nat} (hc : c=xs.length) (h : St fp w0 w (copR w0 E k R v xs c :: rs)) : St fp w0 w (deepR E k R v xs :: rs):=by
  obtain⟨css,hp,h2⟩:=h.cop;have hl:=hp.len;rw [hc,List.drop_length,List.length_nil,List.length_drop] at hl;have hA : DIn k R (css.take c) (xs.take c) w:=h2.any 1 rfl;have hl2:=hA.len;rw [List.length_take,List.length_take] at hl2;have e1 : css.take c=css:=List.take_of_length_le (by omega);have e2 : xs.take c=xs:=List.take_of_length_le (by omega);rw [e1,e2] at h2;exact h2.mkDeep
end
section
variable {P : Program} {ops : Array Oper} {Q : Exit → Act → World → Prop} {rest : List Oper} {a : Act} {n : Nat} {l : List (Nat × Option Value)} {w : World}
  {ty : TypeId} {pos : String} {af : Array Edge} {d : Nat} {v u : Value} {k0 fuel h0 : Nat} {listed : Array Bool} {B : List Nat}
variable {α : Type} {R : World → List Value → α → Prop} {E k : Nat} {xs : List α} {x0 x' : α} {w0 : World} {rs : List Rs}
theorem St.copSet {c o : Nat} {F : World → Prop} {css : List (List Value)} {w' : World} (hp : DIn k R (css.drop c) (xs.drop c) w0) (hx : xs[c]? = some x0) (hlt : o < k) (h1 : u.oneCell' = true)
    (hR : ∀ w' cs,R w0 cs x0 → F w' → R w' (cs.set o u) x')
    (h : St NB w0 w' (ownR E k v xs.length (css.flatten.set (c * k + o) u) :: anyR F :: anyR (DIn k R (css.take c) (xs.take c)) :: rs)) : St NB w0 w' (copR w0 E k R v (xs.set c x') (c + 1) :: rs):=by
  have hcl : c < xs.length:=(List.getElem?_eq_some_iff.1 hx).1;have hx0 : (xs.drop c)[0]? = some x0:=by rw [List.getElem?_drop];simpa using hx
  obtain⟨cs,g1,g2,g3,g4⟩:=hp.get hx0;have hA : DIn k R (css.take c) (xs.take c) w':=h.any 2 rfl;have hlA:=hA.len;rw [List.length_take,List.length_take] at hlA;have hlB:=hp.len;rw [List.length_drop,List.length_drop] at hlB;have hcc : css[c]? = some cs:=by rw [List.getElem?_drop] at g1;simpa using g1
  have hccl : c < css.length:=(List.getElem?_eq_some_iff.1 hcc).1;have hll : css.length=xs.length:=by omega
  have hlen : ∀ d ∈ css,d.length=k:=by
    intro d hd;have hB:=hp;have hd2 : d ∈ css.take c ++ css.drop c:=by rw [List.take_append_drop];exact hd
    have aux : ∀ {a : List (List Value)} {ys : List α} {w : World},DIn k R a ys w → ∀ e ∈ a,e.length=k:=by
      intro a
      induction a with
      | nil=>intro ys w _ e he;cases he
      | cons b a ih=>
        intro ys w h e he;cases ys with
        | nil=>exact h.elim
        | cons y ys=>
          rcases List.mem_cons.1 he with rfl|he
          · exact h.1.1
          · exact ih h.2 e he
    rcases List.mem_append.1 hd2 with hd|hd
    · exact aux hA d hd
    · exact aux hp d hd
  have hset : css.flatten.set (c * k + o) u=(css.set c (cs.set o u)).flatten:=by
    have : ∀ (css : List (List Value)) (c : Nat) (cs : List Value),(∀ d ∈ css,d.length=k) → css[c]? = some cs → css.flatten.set (c * k + o) u=(css.set c (cs.set o u)).flatten:=by
      intro css
      induction css with
      | nil=>intro c cs _ h;simp at h
      | cons b css ih=>
        intro c cs hl h;have hb:=hl b (List.mem_cons_self ..);cases c with
        | zero=>
          simp at h;subst h;simp only [Nat.zero_mul,Nat.zero_add,List.flatten_cons,List.set_cons_zero];rw [List.set_append_left _ _ (by omega)]
        | succ c=>
          have e : (c + 1) * k + o - b.length=c * k + o:=by rw [hb,Nat.succ_mul];omega
          simp only [List.flatten_cons,List.set_cons_succ];rw [List.set_append_right _ _ (by rw [hb,Nat.succ_mul];omega),e,ih c cs (fun d hd=>hl d (List.mem_cons_of_mem _ hd)) (by simpa using h)]
    exact this css c cs hlen hcc
  rw [hset] at h;have hcs1 : ∀ z ∈ cs.set o u,z.oneCell' = true:=by
    intro z hz
    rcases List.mem_or_eq_of_mem_set hz with hz|rfl
    · exact g3 z hz
    · exact h1
  have hRw : R w0 cs x0:=g4;refine St.mkCop (css:=css.set c (cs.set o u)) ?_ ?_
  · have e1 : (css.set c (cs.set o u)).drop (c + 1)=css.drop (c + 1):=by rw [List.drop_set_of_lt (by omega)]
    have e2 : (xs.set c x').drop (c + 1)=xs.drop (c + 1):=by rw [List.drop_set_of_lt (by omega)]
    rw [e1,e2];have:=hp.drop (j:=1);rw [List.drop_drop,List.drop_drop] at this;exact this
  · have e1 : (css.set c (cs.set o u)).take (c + 1)=css.take c ++ [cs.set o u]:=by
      rw [List.take_add_one,List.take_set_of_le (Nat.le_refl _)];simp [hccl]
    have e2 : (xs.set c x').take (c + 1)=xs.take c ++ [x']:=by
      rw [List.take_add_one,List.take_set_of_le (Nat.le_refl _)];simp [hcl]
    rw [e1,e2,List.length_set];have h5:=(h.pick 1 rfl);dsimp only [List.eraseIdx] at h5;have h6:=h5.pick 2 rfl;dsimp only [List.eraseIdx] at h6;have h7:=h6.anyAnd;have h8:=h7.anyMono (G:=DIn k R (css.take c ++ [cs.set o u]) (xs.take c ++ [x'])) (fun w'' hw=>DIn.app (css':=[cs.set o u]) (xs':=[x']) ⟨⟨by rw [List.length_set];exact g2,hcs1,hR w'' cs hRw hw.2⟩,trivial⟩ hw.1);have h9:=h8.pick 1 rfl;dsimp only [List.eraseIdx] at h9;exact h9
variable {A : Option Addr} {ad : Addr} {x y : Operand} {t m n0 cap i c o : Nat} {F : World → Prop}
theorem St.copStore (hS : St NB w0 w (anyR F :: copR w0 E k R v xs c :: rs)) (hic : i=c) (hv : v=.slice A n0 cap) (hA : A=some ad) (hx : xs[i]? = some x0) (ho : o < k) (h1 : u.oneCell' = true)
    (hR : ∀ w' cs,R w0 cs x0 → F w' → R w' (cs.set o u) x') :
    ∃ b cp css,v=.slice (some ⟨b,0,none⟩) xs.length cp ∧ (ad.add (i * k)).add o=⟨b,i * k + o,none⟩ ∧ i * k + o < xs.length * k ∧ Own w E k v xs.length css ∧
      ∀ w',Own w' E k v xs.length (css.set (i * k + o) u) → Chg [b] w w' → St NB w0 w' (copR w0 E k R v (xs.set i x') (c + 1) :: rs):=by
  subst hic;have h2:=hS.pick 1 rfl;dsimp only [List.eraseIdx] at h2;obtain⟨css,hp,h3⟩:=h2.cop;have hO:=h3.own 0 rfl;have hi:=(List.getElem?_eq_some_iff.1 hx).1
  rcases id hO with ⟨rfl,h0,_⟩ | ⟨b,cp,cs,hvb,hB',q2,q3,q4,q5,q6⟩
  · omega
  · refine⟨b,cp,css.flatten,hvb,?_,?_,hO,fun w' hO' hC=>?_⟩
    · have e:=hvb.symm.trans hv;cases e;cases hA
      rw [Yx,Tj]
    · have:=Nat.mul_le_mul_right k (show i + 1 ≤ xs.length from hi);rw [Nat.succ_mul] at this;omega
    · have h4:=h3.setOwn hO' (by rw [hvb];exact hC) (.inl rfl);have h5:=h4.pick 2 rfl;dsimp only [List.eraseIdx] at h5;have h6:=h5.pick 1 rfl;dsimp only [List.eraseIdx] at h6;exact St.copSet hp hx ho h1 hR h6
theorem Zpy (j : Nat) (H : Has a n l) (hi : ops[j]? = some ⟨none,.store t x y,ty,pos,af,none⟩) (ex : lo l x=some (.pointer (some ((ad.add (i * k)).add o)))) (ey : lo l y=some u) (hs : Xb P t=some 1)
    (hS : St NB w0 w (anyR F :: copR w0 E k R v xs c :: rs)) (hic : i=c) (hv : v=.slice A n0 cap) (hA : A=some ad) (hx : xs[i]? = some x0) (ho : o < k) (h1 : u.oneCell' = true)
    (hR : ∀ w' cs,R w0 cs x0 → F w' → R w' (cs.set o u) x') (hr : Region.ready .any ops listed=[j]) (hB : act k0 (listed.setIfInBounds j true)=false)
    (h : ∀ w',St NB w0 w' (copR w0 E k R v (xs.set i x') (c + 1) :: rs) → w.heap.size ≤ w'.heap.size → ∀ a',Has a' n l → wpK P ops Q k0 (ChgF B h0 w') fuel (listed.setIfInBounds j true) a' w') :
    wpK P ops Q k0 (ChgF B h0 w) (fuel + 1) listed a w:=by
  obtain⟨b,cp,css,hvb,hadd,hlt,hO,hk⟩:=hS.copStore hic hv hA hx ho h1 hR;rw [hadd] at ex;rw [hvb] at hO hk;exact Zrf j H hi ex ey hs h1 hO hlt hr hB fun w' hO' hC a' H'=>h w' (by rw [hvb];exact hk w' hO' hC) hC.size a' H'
end
section
variable {α : Type} {g : α → Nat → Rs} {v : Value} {x : α} {o : Option α} {fp : Nat → Prop} {w0 w : World} {rs : List Rs} {b : Nat}
end
end Go.Proofs.YtjekfpnpfllaoaaGreatDoor
set_option linter.unusedVariables false
set_option linter.unusedSimpArgs false
set_option linter.unusedSectionVars false
namespace Go.Proofs.YtjekfpnpfllaoaaGreatDoor
open Go Go.RowKit
section
variable {P : Program} {ops : Array Oper} {Q : Exit → Act → World → Prop} {a : Act} {n : Nat} {l : List (Nat × Option Value)} {w : World} {B : List Nat} {k0 h0 : Nat}
  {op : Op} {ty : TypeId} {pos : String} {af : Array Edge} {d fuel : Nat} {v : Value} {listed : Array Bool} {j t : Nat} {want b : Bool}
theorem tT (i : Nat) (H : Has a n l) (hi : ops[i]? = some ⟨some d,op,ty,pos,af,none⟩) (q : Q1 P (lo l) op (fun _=>True) v) (hd : Nat.blt d n=true) (h : ∀ a',Has a' n ((d,some v) :: l) → wpK P ops Q k0 (ChgF B h0 w) fuel (listed.setIfInBounds i true) a' w) (hs : Region.noSelect ops=true:=by kernel_rfl) (hf : Region.free .any ops listed i=true:=by kernel_rfl) (hr : (Region.ready .any ops listed).contains i=true:=by kernel_rfl) (hb : (!(Nat.beq i k0) && (Nat.beq listed.size ops.size))=true:=by kernel_rfl) (hQ : ∀ c a w,Q (.panic c) (a.put (some d) v) w → Q (.panic c) a w:=by exact fun _ _ _ h=>h) : wpK P ops Q k0 (ChgF B h0 w) (fuel + 1) listed a w:=Zra i H hi q hd hs hf hr hb hQ h
theorem tL (i : Nat) (H : Has a n l) (hi : ops[i]? = some ⟨some d,op,ty,pos,af,none⟩) (q : Q1 P (lo l) op (ChgF B h0 w) v) (hd : Nat.blt d n=true) (h : ∀ a',Has a' n ((d,some v) :: l) → wpK P ops Q k0 (ChgF B h0 w) fuel (listed.setIfInBounds i true) a' w) (hs : Region.noSelect ops=true:=by kernel_rfl) (hf : Region.free .any ops listed i=true:=by kernel_rfl) (hr : (Region.ready .any ops listed).contains i=true:=by kernel_rfl) (hb : (Zir ops k0 i && !(Nat.beq i k0) && act k0 listed && (Nat.beq listed.size ops.size))=true:=by kernel_rfl) (hQ : ∀ c a w,Q (.panic c) (a.put (some d) v) w → Q (.panic c) a w:=by exact fun _ _ _ h=>h) : wpK P ops Q k0 (ChgF B h0 w) (fuel + 1) listed a w:=Zud i H hi q hd hs hf hr hb hQ h
theorem tR (i f : Nat) (H : Has a n l) (hi : ops[i]? = some ⟨some d,op,ty,pos,af,none⟩) (q : Q1 P (lo l) op (ChgF B h0 w) v) (hd : Nat.blt d n=true) (h : ∀ a',Has a' n ((d,some v) :: l) → wpK P ops Q k0 (ChgF B h0 w) fuel (listed.setIfInBounds i true) a' w) (hs : Region.noSelect ops=true:=by kernel_rfl) (hf : Region.free .any ops listed i=true:=by kernel_rfl) (hr : (Region.ready .any ops listed).contains i=true:=by kernel_rfl) (hb : ((Zis ops k0 f).testBit i && !(Nat.beq i k0) && act k0 listed && (Nat.beq listed.size ops.size) && Zod ops listed)=true:=by kernel_rfl) (hQ : ∀ c a w,Q (.panic c) (a.put (some d) v) w → Q (.panic c) a w:=by exact fun _ _ _ h=>h) : wpK P ops Q k0 (ChgF B h0 w) (fuel + 1) listed a w:=Zva i f H hi q hd hs hf hr hb hQ h
theorem tTx (i : Nat) (H : Has a n l) (hi : ops[i]? = some ⟨some d,op,ty,pos,af,none⟩) (q : Q1 P (lo l) op (fun _=>True) v) (hd : Nat.blt d n=true) (h : ∀ a',Has a' n ((d,some v) :: l) → wpK P ops Q k0 (ChgF B h0 w) fuel (listed.setIfInBounds i true) a' w) (hs : Region.noSelect ops=true:=by as_aux_lemma=>kernel_rfl) (hf : Region.free .any ops listed i=true:=by as_aux_lemma=>kernel_rfl) (hr : (Region.ready .any ops listed).contains i=true:=by as_aux_lemma=>kernel_rfl) (hb : (!(Nat.beq i k0) && (Nat.beq listed.size ops.size))=true:=by as_aux_lemma=>kernel_rfl) (hQ : ∀ c a w,Q (.panic c) (a.put (some d) v) w → Q (.panic c) a w:=by exact fun _ _ _ h=>h) : wpK P ops Q k0 (ChgF B h0 w) (fuel + 1) listed a w:=Zra i H hi q hd hs hf hr hb hQ h
theorem tLx (i : Nat) (H : Has a n l) (hi : ops[i]? = some ⟨some d,op,ty,pos,af,none⟩) (q : Q1 P (lo l) op (ChgF B h0 w) v) (hd : Nat.blt d n=true) (h : ∀ a',Has a' n ((d,some v) :: l) → wpK P ops Q k0 (ChgF B h0 w) fuel (listed.setIfInBounds i true) a' w) (hs : Region.noSelect ops=true:=by as_aux_lemma=>kernel_rfl) (hf : Region.free .any ops listed i=true:=by as_aux_lemma=>kernel_rfl) (hr : (Region.ready .any ops listed).contains i=true:=by as_aux_lemma=>kernel_rfl) (hb : (Zir ops k0 i && !(Nat.beq i k0) && act k0 listed && (Nat.beq listed.size ops.size))=true:=by as_aux_lemma=>kernel_rfl) (hQ : ∀ c a w,Q (.panic c) (a.put (some d) v) w → Q (.panic c) a w:=by exact fun _ _ _ h=>h) : wpK P ops Q k0 (ChgF B h0 w) (fuel + 1) listed a w:=Zud i H hi q hd hs hf hr hb hQ h
theorem gTx (i : Nat) (H : Has a n l) (hi : ops[i]? = some ⟨some d,op,ty,pos,af,some (j,want)⟩) (hj : (ops[j]?).bind (·.dst)=some t) (ht : lk l t=some (.bool want)) (q : Q1 P (lo l) op (fun _=>True) v) (hd : Nat.blt d n=true) (h : ∀ a',Has a' n ((d,some v) :: l) → wpK P ops Q k0 (ChgF B h0 w) fuel (listed.setIfInBounds i true) a' w) (hs : Region.noSelect ops=true:=by as_aux_lemma=>kernel_rfl) (hf : Region.free .any ops listed i=true:=by as_aux_lemma=>kernel_rfl) (hr : (Region.ready .any ops listed).contains i=true:=by as_aux_lemma=>kernel_rfl) (hb : (!(Nat.beq i k0) && (Nat.beq listed.size ops.size))=true:=by as_aux_lemma=>kernel_rfl) (hQ : ∀ c a w,Q (.panic c) (a.put (some d) v) w → Q (.panic c) a w:=by exact fun _ _ _ h=>h) : wpK P ops Q k0 (ChgF B h0 w) (fuel + 1) listed a w:=Zs7 i H hi hj ht q hd hs hf hr hb hQ h
theorem gLx (i : Nat) (H : Has a n l) (hi : ops[i]? = some ⟨some d,op,ty,pos,af,some (j,want)⟩) (hj : (ops[j]?).bind (·.dst)=some t) (ht : lk l t=some (.bool want)) (q : Q1 P (lo l) op (ChgF B h0 w) v) (hd : Nat.blt d n=true) (h : ∀ a',Has a' n ((d,some v) :: l) → wpK P ops Q k0 (ChgF B h0 w) fuel (listed.setIfInBounds i true) a' w) (hs : Region.noSelect ops=true:=by as_aux_lemma=>kernel_rfl) (hf : Region.free .any ops listed i=true:=by as_aux_lemma=>kernel_rfl) (hr : (Region.ready .any ops listed).contains i=true:=by as_aux_lemma=>kernel_rfl) (hb : (Zir ops k0 i && !(Nat.beq i k0) && act k0 listed && (Nat.beq listed.size ops.size))=true:=by as_aux_lemma=>kernel_rfl) (hQ : ∀ c a w,Q (.panic c) (a.put (some d) v) w → Q (.panic c) a w:=by exact fun _ _ _ h=>h) : wpK P ops Q k0 (ChgF B h0 w) (fuel + 1) listed a w:=Zu2 i H hi hj ht q hd hs hf hr hb hQ h
theorem tNx (i : Nat) (H : Has a n l) (hi : ops[i]? = some ⟨some d,op,ty,pos,af,some (j,want)⟩) (hj : (ops[j]?).bind (·.dst)=some t) (ht : lk l t=some (.bool b)) (hn : b ≠ want) (hd : Nat.blt d n=true) (h : ∀ a',Has a' n ((d,some undef) :: l) → wpK P ops Q k0 (ChgF B h0 w) fuel (listed.setIfInBounds i true) a' w) (hs : Region.noSelect ops=true:=by as_aux_lemma=>kernel_rfl) (hf : Region.free .any ops listed i=true:=by as_aux_lemma=>kernel_rfl) (hr : (Region.ready .any ops listed).contains i=true:=by as_aux_lemma=>kernel_rfl) (hb : (!(Nat.beq i k0) && (Nat.beq listed.size ops.size))=true:=by as_aux_lemma=>kernel_rfl) (hQ : ∀ c a w,Q (.panic c) (a.put (some d) undef) w → Q (.panic c) a w:=by exact fun _ _ _ h=>h) : wpK P ops Q k0 (ChgF B h0 w) (fuel + 1) listed a w:=k_no i H hi hj ht hn hd hs hf hr hb hQ h
end
theorem St.dr {fp : Nat → Prop} {w0 w : World} : ∀ (i : Nat) {rs : List Rs},St fp w0 w rs → St fp w0 w (rs.drop i)
  | 0,_,h=>h
  | _ + 1,[],h=>h
  | i + 1,_ :: _,h=>St.dr i h.tail
end Go.Proofs.YtjekfpnpfllaoaaGreatDoor
set_option linter.unusedVariables false
set_option linter.unusedSimpArgs false
set_option linter.unusedSectionVars false
namespace Go.Proofs.YtjekfpnpfllaoaaGreatDoor
open Go Go.RowKit
section
variable {P : Program} {ops : Array Oper} {Q : Exit → Act → World → Prop} {rest : List Oper} {a : Act} {n : Nat} {l : List (Nat × Option Value)} {w : World} {B : List Nat} {k0 h0 : Nat}
  {op : Op} {ty : TypeId} {pos : String} {af : Array Edge} {d fuel : Nat} {listed : Array Bool} {α : Type} {e : α → List Value} {E k i j m c n0 : Nat} {v u : Value} {xs : List α} {x0 x' : α} {ds : List Value} {ad : Addr} {A : Option Addr} {t : TypeId} {x y : Operand}
end
def selO : List Nat → List (Option Rs) → Option (List Rs)
  | [],_=>some []
  | i :: is,rs=>match rs[i]? with
    | some (some r)=>(selO is (rs.set i none)).map (r :: ·)
    | _=>none
theorem Zm7 : ∀ (is : List Nat) (rs : List (Option Rs)) (ys : List Rs),selO is rs=some ys → ∃ zs,(rs.filterMap id).Perm (ys ++ zs)
  | [],rs,ys,h=>by cases h;exact⟨_,List.Perm.refl _⟩
  | i :: is,rs,ys,h=>by
    unfold selO at h;split at h
    · next r hr=>
      cases hk : selO is (rs.set i none) with
      | none=>rw [hk] at h;cases h
      | some zs=>
        rw [hk] at h;cases h
        obtain⟨ts,hp⟩:=Zm7 is _ _ hk;refine⟨ts,List.Perm.trans ?_ (hp.cons r)⟩;clear hp hk
        induction rs generalizing i with
        | nil=>simp at hr
        | cons x xs ih=>
          cases i with
          | zero=>
            have : x=some r:=by simpa using hr
            subst this;simp
          | succ i=>
            have h1:=ih i (by simpa using hr);cases x with
            | none=>simpa using h1
            | some y=>
              simp only [List.set_cons_succ,List.filterMap_cons,id_eq];exact (h1.cons y).trans (List.Perm.swap r y _)
    · cases h
def atL : List Rs → Nat → Option Rs
  | [],_=>none
  | r :: _,0=>some r
  | _ :: rs,i + 1=>atL rs i
def selI : List Nat → List Rs → Option (List Rs)
  | [],_=>some []
  | i :: is,rs=>match atL rs i with
    | some r=>match selI is rs with
      | some ys=>some (r :: ys)
      | none=>none
    | none=>none
def noIn (i : Nat) : List Nat → Bool
  | []=>true
  | j :: is=>!(Nat.beq i j) && noIn i is
def nodI : List Nat → Bool
  | []=>true
  | i :: is=>noIn i is && nodI is
theorem Zrj : ∀ (rs : List Rs) (i : Nat),atL rs i=rs[i]?
  | [],_=>by simp [atL]
  | r :: _,0=>by simp [atL]
  | _ :: rs,i + 1=>by simp [atL,Zrj rs i]
theorem Zrk : ∀ {is : List Nat} {i : Nat},noIn i is=true → ∀ j ∈ is,i ≠ j
  | [],_,_,_,h=>by cases h
  | k :: is,i,h,j,hj=>by
    simp only [noIn,Bool.and_eq_true,Bool.not_eq_true'] at h
    rcases List.mem_cons.1 hj with rfl|hj
    · intro e;subst e;have:=h.1;simp at this
    · exact Zrk h.2 j hj
theorem Zul : ∀ (is : List Nat) (rs : List Rs) (R : List (Option Rs)) (ys : List Rs),nodI is=true → (∀ i ∈ is,∀ r,rs[i]? = some r → R[i]? = some (some r)) → selI is rs=some ys → selO is R=some ys
  | [],_,_,_,_,_,h=>h
  | i :: is,rs,R,ys,hn,ha,h=>by
    unfold selI at h;simp only [nodI,Bool.and_eq_true] at hn;split at h
    · next r hr=>
      split at h
      · next zs hz=>
        cases h
        have h1:=ha i (List.mem_cons_self ..) r (by rw [← Zrj];exact hr);have h2:=Zul is rs (R.set i none) zs hn.2 (fun j hj q hq=>by
          rw [List.getElem?_set_ne (Zrk hn.1 j hj)];exact ha j (List.mem_cons_of_mem _ hj) q hq) hz
        simp only [selO,h1,h2,Option.map_some]
      · cases h
    · cases h
theorem St.sel {fp : Nat → Prop} {w0 w : World} {rs ys : List Rs} (is : List Nat) (h : St fp w0 w rs) (hn : nodI is=true) (e : selI is rs=some ys) : St fp w0 w ys:=by
  have e2:=Zul is rs (rs.map some) ys hn (fun i _ r hr=>by simp [hr]) e;obtain⟨zs,hp⟩:=Zm7 is _ _ e2;have hf : (rs.map some).filterMap id=rs:=by simp [List.filterMap_map]
  rw [hf] at hp;have h2:=(h.sep.perm hp).take ys.length;rw [List.take_left'] at h2
  · exact⟨h.chg,h2⟩
  · rfl
section
variable {P : Program} {ops : Array Oper} {Q : Exit → Act → World → Prop} {rest os : List Oper} {a : Act} {n : Nat} {l l' : List (Nat × Option Value)} {w : World}
def noL (ops : Array Oper) (n : Nat) : Nat → List Oper → List (Nat × Option Value) → Option (List Oper × List (Nat × Option Value))
  | 0,r,l=>some (r,l)
  | k + 1,⟨some d,_,_,_,_,some (j,want)⟩ :: r,l=>match (ops[j]?).bind (·.dst) with
    | some t=>match lk l t with
      | some (.bool b)=>bif (b ^^ want) && Nat.blt d n then noL ops n k r ((d,some undef) :: l) else none
      | _=>none
    | none=>none
  | _ + 1,_,_=>none
theorem Qj : ∀ (k : Nat) {os : List Oper} {l : List (Nat × Option Value)} {a : Act},Has a n l → noL ops n k os l=some (rest,l') → (∀ a',Has a' n l' → wpList P ops Q rest a' w) → wpList P ops Q os a w
  | 0,os,l,a,H,e,h=>by cases e;exact h a H
  | k + 1,[],l,a,H,e,h=>by simp [noL] at e
  | k + 1,⟨none,_,_,_,_,_⟩ :: r,l,a,H,e,h=>by simp [noL] at e
  | k + 1,⟨some d,_,_,_,_,none⟩ :: r,l,a,H,e,h=>by simp [noL] at e
  | k + 1,⟨some d,op,ty,pos,af,some (j,want)⟩ :: r,l,a,H,e,h=>by
    unfold noL at e;split at e
    · next t hj=>
      split at e
      · next b ht=>
        cases hc : (b ^^ want) && Nat.blt d n with
        | false=>rw [hc] at e;cases e
        | true=>
          rw [hc] at e;rw [Bool.and_eq_true] at hc;have hb : b ≠ want:=by intro h;subst h;simp at hc
          exact n_no H hj ht hb hc.2 (fun a' H'=>Qj k H' e h)
      · cases e
    · cases e
theorem Xc (k : Nat) (e : noL ops n k os l=some (rest,l')) (h : ∀ a',Has a' n l' → wpList P ops Q rest a' w) : ∀ a,Has a n l → wpList P ops Q os a w:=fun a H=>Qj k H e h
end
section
variable {P : Program} {n : Nat} {w : World} {f : FuncId} {fn : Func} {c : Code} {R : Ending → World → Prop}
theorem Zrl (hf : P.funcs[f]? = some fn) (hb : fn.body=some c) (hn : fn.ntmps=n) (h : ∀ a,Has a n [] → c.wp P (bodyPost P fn R) a w) : Calls P f ([] : List Value).toArray w R:=enter hf hb hn rfl h
theorem Jd {x : Value} (hf : P.funcs[f]? = some fn) (hb : fn.body=some c) (hn : fn.ntmps=n) (hl : Nat.ble 1 n=true) (h : ∀ a,Has a n [(0,some x)] → c.wp P (bodyPost P fn R) a w) : Calls P f [x].toArray w R:=enter hf hb hn hl h
theorem Xv {x y : Value} (hf : P.funcs[f]? = some fn) (hb : fn.body=some c) (hn : fn.ntmps=n) (hl : Nat.ble 2 n=true) (h : ∀ a,Has a n [(0,some x),(1,some y)] → c.wp P (bodyPost P fn R) a w) : Calls P f [x,y].toArray w R:=enter hf hb hn hl h
theorem Zer {x y z : Value} (hf : P.funcs[f]? = some fn) (hb : fn.body=some c) (hn : fn.ntmps=n) (hl : Nat.ble 3 n=true) (h : ∀ a,Has a n [(0,some x),(1,some y),(2,some z)] → c.wp P (bodyPost P fn R) a w) : Calls P f [x,y,z].toArray w R:=enter hf hb hn hl h
theorem enter4 {x y z u : Value} (hf : P.funcs[f]? = some fn) (hb : fn.body=some c) (hn : fn.ntmps=n) (hl : Nat.ble 4 n=true) (h : ∀ a,Has a n [(0,some x),(1,some y),(2,some z),(3,some u)] → c.wp P (bodyPost P fn R) a w) : Calls P f [x,y,z,u].toArray w R:=enter hf hb hn hl h
end
section
variable {P : Program} {ops : Array Oper} {Q : Exit → Act → World → Prop} {a : Act} {n : Nat} {l : List (Nat × Option Value)} {w : World} {B : List Nat} {k0 h0 fuel : Nat} {listed : Array Bool}
def Zvb : Array Bool → List Nat → Array Bool
  | r,[]=>r
  | r,i :: is=>Zvb (r.setIfInBounds i true) is
theorem Zrm {σ : Type} (H0 : Has a n l) (fuel' : Nat) (is : List Nat) (L : σ → List (Nat × Value)) (R : σ → World → Prop)
    (h2 : ∀ x a w,Has a n (ent (L x)) → R x w → wpK P ops Q k0 (ChgF B h0 w) fuel' (Zvb listed is) a w)
    (h1 : (∀ x l' a w ls,Has a n l' → Sub (L x) l' → R x w → ls=Zvb listed is → wpK P ops Q k0 (ChgF B h0 w) fuel' ls a w) → wpK P ops Q k0 (ChgF B h0 w) fuel listed a w) : wpK P ops Q k0 (ChgF B h0 w) fuel listed a w:=
  h1 fun x l' a w ls H hs hR e=>e ▸ h2 x a w (H.sub _ hs) hR
end
theorem SlR.q {α : Type} {k : Nat} {enc : α → List Value} {v : Value} {xs : List α} {w w' : World} {rs : List Rs} (h : SlR w k (Qs enc) v xs) (s : St NB w w' rs) : SlR w' k (Qs enc) v xs:=h.ext (Qs.mono _) s.x
section
variable {P : Program} {Q : Exit → Act → World → Prop} {K : Act → World → Prop} {ops : Array Oper} {a : Act} {w : World} {id : Nat} {l : List Oper} {x y : Code} {K' : Exit → Act → World → Prop}
theorem rgL (h : wpList P l.toArray Q l a w) : Code.wp P (Code.region id l.toArray false) Q a w:=wp_region_lit h
theorem sqC (h : Code.wp P x (Exit.then (Code.wp P y Q) Q) a w) : Code.wp P (x.seq y) Q a w:=wp_seq h
theorem sqR (h : wpList P l.toArray (Exit.then (Code.wp P y Q) Q) l a w) : Code.wp P ((Code.region id l.toArray false).seq y) Q a w:=wp_seq (wp_region_lit h)
theorem skN (h : K a w) : Code.wp P Code.skip (Exit.then K Q) a w:=wp_skip (Zd h)
theorem ntN (h : K a w) : wpList P ops (Exit.then K Q) [] a w:=Qq (Zd h)
theorem ntS (h : wpList P l.toArray (Exit.then (Code.wp P y Q) Q) l a w) : wpList P ops (Exit.then (Code.wp P ((Code.region id l.toArray false).seq y) Q) K') [] a w:=Qq (Zd (wp_seq (wp_region_lit h)))
end
theorem siJ {α : Type} {a b : α} (h : some a=some b) : a=b:=Option.some.inj h
theorem lcA {α : Type} (a : α) (xs ys : List α) : (a :: xs) ++ ys=a :: (xs ++ ys):=rfl
theorem lnA {α : Type} (xs : List α) : [] ++ xs=xs:=rfl
theorem byteIn {z : Int} (h : 0 ≤ z ∧ z < 256) : z=((Wt z).toNat : Int):=by
  have:=Zec z;omega
abbrev J (n : Int) : Value:=.int .i64 n
end Go.Proofs.YtjekfpnpfllaoaaGreatDoor
