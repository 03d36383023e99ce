/- Part of a claim, shortened by a program from its texts: Deep, Nest, Fast, Mid, Cpy, Ptr, Cop, PtD. -/
import Derived.Test.YtfemfiiagjnhdaaGreatDoorQuC
set_option linter.unusedVariables false
set_option linter.unusedSimpArgs false
set_option linter.unusedSectionVars false
namespace Go.Proofs.YtfemfiiagjnhdaaGreatDoor
open Go Go.RowKit
theorem List.take_set_of_le_aux {β : Type} (c : β) (ys : List β) (i : Nat) (h : i < ys.length) : (ys.set i c).take (i + 1)=ys.take i ++ [c]:=by
  rw [List.take_set,List.take_add_one,List.getElem?_eq_getElem h]
  simp only [Option.toList_some]
  rw [List.set_append_right _ _ (by simp;omega)]
  simp [Nat.min_eq_left (Nat.le_of_lt h)]
section
variable {α : Type} {R : World → List Value → α → Prop} {k : Nat}
def RSl (k : Nat) (e : α → List Value) (w : World) (cs : List Value) (xs : List α) : Prop:=∃ v,cs=[v] ∧ SlR w k (Zq e) v xs
theorem RSl.mono (k : Nat) (e : α → List Value) : Zhy (RSl k e):=by
  intro w w' cs x ag h
  obtain⟨v,rfl,h⟩:=h
  exact⟨v,rfl,h.agr (Zq.mono _) ag⟩
def DIn (k : Nat) (R : World → List Value → α → Prop) : List (List Value) → List α → World → Prop
  | [],[],_=>True
  | cs :: css,x :: xs,w=>(cs.length=k ∧ (∀ u ∈ cs,u.oneCell' = true) ∧ R w cs x) ∧ DIn k R css xs w
  | _,_,_=>False
theorem DIn.len {w : World} : ∀ {css : List (List Value)} {xs : List α},DIn k R css xs w → css.length=xs.length
  | [],[],_=>rfl
  | cs :: css,x :: xs,⟨_,h⟩=>by simp [h.len]
  | [],x :: xs,h=>h.elim
  | cs :: css,[],h=>h.elim
theorem DIn.one {w : World} : ∀ {css : List (List Value)} {xs : List α},DIn k R css xs w → ∀ u ∈ css.flatten,u.oneCell' = true
  | [],[],_,u,hu=>by simp at hu
  | cs :: css,x :: xs,⟨h1,h⟩,u,hu=>by
    rw [List.flatten_cons,List.mem_append] at hu
    exact hu.elim (h1.2.1 u) (h.one u)
  | [],x :: xs,h,_,_=>h.elim
  | cs :: css,[],h,_,_=>h.elim
theorem DIn.at {w : World} : ∀ {css : List (List Value)} {xs : List α} {i : Nat} {x : α},DIn k R css xs w → xs[i]? = some x → ∃ cs,cs.length=k ∧ R w cs x ∧ ∀ j u,cs[j]? = some u → css.flatten[i * k + j]? = some u
  | [],[],i,x,_,hx=>by simp at hx
  | cs :: css,y :: xs,0,x,⟨h1,h⟩,hx=>by
    simp only [List.getElem?_cons_zero,Option.some.injEq] at hx
    subst hx
    refine⟨cs,h1.1,h1.2.2,fun j u hu=>?_⟩
    rw [List.flatten_cons,List.getElem?_append_left (by have:=(List.getElem?_eq_some_iff.1 hu).1;omega)]
    simpa using hu
  | cs :: css,y :: xs,i + 1,x,⟨h1,h⟩,hx=>by
    obtain⟨cs',g1,g2,g3⟩:=h.at (i:=i) (by simpa using hx)
    refine⟨cs',g1,g2,fun j u hu=>?_⟩
    rw [List.flatten_cons,List.getElem?_append_right (by rw [h1.1,Nat.succ_mul];omega),h1.1]
    have e : (i + 1) * k + j - k=i * k + j:=by rw [Nat.succ_mul];omega
    rw [e]
    exact g3 j u hu
  | [],x :: xs,_,_,h,_=>h.elim
  | cs :: css,[],_,_,h,_=>h.elim
theorem DIn.cons {w : World} {cs : List Value} {x : α} {css : List (List Value)} {xs : List α} (h1 : cs.length=k) (h2 : ∀ u ∈ cs,u.oneCell' = true) (h3 : R w cs x) (h : DIn k R css xs w) : DIn k R (cs :: css) (x :: xs) w:=⟨⟨h1,h2,h3⟩,h⟩
theorem DIn.mono (hR : Zhy R) {w w' : World} (e : Agr w w') : ∀ {css : List (List Value)} {xs : List α},DIn k R css xs w → DIn k R css xs w'
  | [],[],_=>trivial
  | c :: css,y :: xs,⟨g,h⟩=>⟨⟨g.1,g.2.1,hR _ _ _ _ e g.2.2⟩,h.mono hR e⟩
  | [],x :: xs,h=>h.elim
  | cs :: css,[],h=>h.elim
theorem SlR.ofCells {w : World} {b cap n : Nat} {css : List (List Value)} {xs : List α} (hc : ∀ j u,css.flatten[j]? = some u → w.cell? ⟨b,j,none⟩=some u) (hd : DIn k R css xs w) (hn : n=xs.length) (hcap : n ≤ cap) (hm : cap ≤ maxLen) : SlR w k R (.slice (some ⟨b,0,none⟩) n cap) xs:=by
  subst hn
  refine⟨some ⟨b,0,none⟩,cap,rfl,hcap,hm,(fun h=>by cases h),fun ad h i x hx=>?_⟩
  cases h
  obtain⟨cs,h1,h2,h3⟩:=hd.at hx
  exact⟨cs,h1,h2,fun j u hu=>by rw [Ks];exact hc _ u (h3 j u hu)⟩
theorem SlR.ofBlk {w : World} {b n T : Nat} (css : List (List Value)) (xs : List α) (h : Blk w b css.flatten T) (hd : DIn k R css xs w) (hn : n=xs.length) (hm : n ≤ maxLen) : SlR w k R (.slice (some ⟨b,0,none⟩) n n) xs:=
  SlR.ofCells (fun j u hu=>(h.cell j).trans hu) hd hn (Nat.le_refl _) hm
theorem Own.slD {w : World} {E n : Nat} {v : Value} {css : List (List Value)} {xs : List α} (h : Own w E k v n css.flatten) (hd : DIn k R css xs w) (hn : n=xs.length) : SlR w k R v xs:=by
  rcases id h with ⟨rfl,h0,h1⟩ | ⟨b,cap,cs,rfl,hB,h2,h3,h4,h5,h6⟩
  · cases xs with
    | nil=>exact SlR.nil w k R
    | cons x xs=>simp at hn;omega
  · exact SlR.ofCells (fun j u hu=>h.cell hu) hd hn h2 h3
theorem ldElH {P : Program} {w : World} {T i : Nat} {ad : Addr} {v : Value} (ht : Hr P T=some false) (hc : ∀ j u,[v][j]? = some u → w.cell? (ad.add (i * 1 + j))=some u) : LdX P T w (ad.add (i * 1)) v:=LdX.one ht (hc 0 v rfl)
theorem fillA {place : Nat → Option (Nat × Nat)} {i off : Nat} {v : Value} {zs ds : List Value} {n : Nat} {rest : List (Nat × Value)} (h : v.cells=ds.toArray) (hn : ds.length=n) (hp : place i=some (off,n)) (hl : off + n ≤ zs.length) :
    Instr.fill place zs.toArray ((i,v) :: rest)=Instr.fill place (zs.take off ++ ds ++ zs.drop (off + n)).toArray rest:=by
  subst hn
  rw [Instr.fill,hp]
  simp only [h]
  have h1 : ¬ (ds.toArray.size ≠ ds.length || decide (off + ds.toArray.size > zs.toArray.size))=true:=by simp;omega
  rw [if_neg h1]
  congr 1
  have key : ∀ (es : List Value) (j : Nat) (ys : List Value),off + j + es.length ≤ ys.length → (es.zipIdx j).foldl (fun cs (c,j)=>cs.setIfInBounds (off + j) c) ys.toArray=(ys.take (off + j) ++ es ++ ys.drop (off + j + es.length)).toArray:=by
    intro es
    induction es with
    | nil=>intro j ys _;simp
    | cons c es ih=>
      intro j ys hj
      simp only [List.zipIdx_cons,List.foldl_cons,List.setIfInBounds_toArray]
      rw [ih (j + 1) _ (by simp at hj ⊢;omega)]
      simp only [List.length_cons] at hj
      congr 1
      have e1 : off + (j + 1)=off + j + 1:=by omega
      rw [e1,List.take_set_of_le_aux c ys (off + j) (by omega)]
      rw [List.drop_set_of_lt (by omega)]
      simp only [List.append_assoc,List.cons_append,List.nil_append,List.length_cons]
      have e2 : off + j + 1 + es.length=off + j + (es.length + 1):=by omega
      rw [e2]
  have:=key ds 0 zs (by simpa using hl)
  simpa using this
def deepR (E k : Nat) (R : World → List Value → α → Prop) (v : Value) (xs : List α) : Rs:=exR fun css : List (List Value)=>starR [ownR E k v xs.length css.flatten,anyR (DIn k R css xs)]
theorem Src.blk {w : World} {b m c T : Nat} {cs : List Value} (h : Blk w b cs T) (hl : cs.length=m * k) : Src w k (.slice (some ⟨b,0,none⟩) m c) m cs:=.inr (.inl ⟨_,_,rfl,hl,fun j u hu=>by rw [Ks];exact (h.cell j).trans hu⟩)
end
section
variable {α : Type} {R : World → List Value → α → Prop} {E k n : Nat} {v : Value} {xs : List α} {x : α} {fp : Nat → Prop} {w0 w w' : World} {rs : List Rs}
theorem deepR.sl {g : Nat → Prop} (h : (deepR E k R v xs).P w g) : SlR w k R v xs:=by
  obtain⟨css,⟨f1,h1,h2,f2,h3,h4,_⟩,_⟩:=h
  exact h1.1.slD h3.now rfl
theorem St.deepSl (i : Nat) (h : St fp w0 w rs) (hi : rs[i]? = some (deepR E k R v xs)) : SlR w k R v xs:=by
  obtain⟨g,h1⟩:=h.get i hi
  exact deepR.sl h1
theorem St.mkDeep {css : List (List Value)} (h : St fp w0 w (ownR E k v xs.length css.flatten :: anyR (DIn k R css xs) :: rs)) : St fp w0 w (deepR E k R v xs :: rs):=
  St.mkEx (f:=fun css : List (List Value)=>starR [ownR E k v xs.length css.flatten,anyR (DIn k R css xs)]) css (h.fold [_,_])
theorem St.deepNil (E k : Nat) (R : World → List Value → α → Prop) (h : St fp w0 w rs) : St fp w0 w (deepR E k R (.slice none 0 0) [] :: rs):=
  St.mkDeep (css:=[]) ((h.trivAny (F:=DIn k R [] []) fun _=>trivial).nilOwn E k)
theorem Zgz {z0 : α} {zc : List Value} (hk : zc.length=k) (h1 : ∀ u ∈ zc,u.oneCell' = true) (hz : ∀ w,R w zc z0) : ∀ (n : Nat) (w : World),DIn k R (List.replicate n zc) (List.replicate n z0) w
  | 0,_=>trivial
  | n + 1,w=>⟨⟨hk,h1,hz w⟩,Zgz hk h1 hz n w⟩
end
section
variable {P : Program} {ops : Array Oper} {Q : Exit → Act → World → Prop} {rest : List Oper} {a : Act} {n : Nat} {l : List (Nat × Option Value)} {w : World}
  {ty : TypeId} {pos : String} {af : Array Edge} {d : Nat} {v u : Value}
variable {α : Type} {R : World → List Value → α → Prop} {E k m bytes : Nat} {z : List Value} {xs ys : List α} {css : List (List Value)} {fp : Nat → Prop} {w0 : World} {rs : List Rs}
end
end Go.Proofs.YtfemfiiagjnhdaaGreatDoor
set_option linter.unusedVariables false
set_option linter.unusedSimpArgs false
set_option linter.unusedSectionVars false
namespace Go.Proofs.YtfemfiiagjnhdaaGreatDoor
open Go Go.RowKit
section
variable {fp : Nat → Prop} {w0 w w' : World} {rs rows : List Rs} {r : Rs} {i : Nat}
end
section
variable {β : Type}
end
section
variable {α : Type} {El : List Value → α → Rs} {R : World → List Value → α → Prop} {k : Nat}
variable {fp : Nat → Prop} {w0 w w' : World} {rs : List Rs} {T i : Nat} {v : Value} {xs : List α} {x x' : α} {css : List (List Value)} {cs cs' : List Value}
end
section
variable {α : Type} {e : α → List Value} {E k T : Nat} {fp : Nat → Prop} {w0 w w' : World} {rs : List Rs} {v u u' : Value} {xss : List (List α)} {xs ys : List α} {css : List (List Value)} {i : Nat}
end
section
variable {P : Program} {ops : Array Oper} {Q : Exit → Act → World → Prop} {rest : List Oper} {a : Act} {n : Nat} {l : List (Nat × Option Value)} {w : World}
  {ty : TypeId} {pos : String} {af : Array Edge} {d : Nat} {v u : Value}
variable {E k c i : Nat} {A : Option Addr} {ad : Addr} {xs : List Value} {x y : Operand} {t m n0 : Nat}
end
section
variable {P : Program} {ops : Array Oper} {Q : Exit → Act → World → Prop} {a : Act} {n : Nat} {l : List (Nat × Option Value)} {w : World} {k0 fuel h0 : Nat} {listed : Array Bool} {B : List Nat}
  {ty : TypeId} {pos : String} {af : Array Edge} {d : Nat} {v u : Value}
variable {E k c i : Nat} {A : Option Addr} {ad : Addr} {xs : List Value} {x y : Operand} {t m n0 : Nat}
theorem Zoy {α : Type} {e : α → List Value} {xs ys : List α} (j : Nat) {t' bytes : Nat} {z : List Value} {d' : TypeDesc} (H : Has a n l) (hi : ops[j]? = some ⟨some d,.call { callee:=.builtin .append,args:=#[x,y],argTypes:=#[t,t'] },ty,pos,af,none⟩) (ex : lo l x=some v) (ey : lo l y=some u)
    (ht : P.underlying t=some (.slice E)) (ht' : P.underlying t' = some d') (hd' : ∀ q,d' ≠ .int q) (hE : ElemOk P E k bytes z) (hv : Own w E k v xs.length (xs.flatMap e)) (hx : Src w k u ys.length (ys.flatMap e)) (h1 : ∀ z,∀ c ∈ e z,c.oneCell' = true)
    (hb : (xs.length + ys.length) * bytes ≤ 140737488355328) (h63 : xs.length + ys.length ≤ maxLen) (hd : Nat.blt d n=true) (hr : Region.ready .any ops listed=[j]) (hB : (∀ b ∈ Yq v,b < h0 → b ∈ B) ∨ act k0 (listed.setIfInBounds j true)=false)
    (h : ∀ v' w',Own w' E k v' (xs ++ ys).length ((xs ++ ys).flatMap e) → Chg (Yq v) w w' → (Yq v' = Yq v ∨ ∃ b,Yq v' = [b] ∧ w.heap.size ≤ b) → ∀ a',Has a' n ((d,some v') :: l) → wpK P ops Q k0 (ChgF B h0 w') fuel (listed.setIfInBounds j true) a' w') :
    wpK P ops Q k0 (ChgF B h0 w) (fuel + 1) listed a w:=
  Zmp j H hi ex ey ht ht' hd' hE hv hx (Zi2 h1 ys) hb h63 hd hr hB fun v' w' hO hC hb _ a' H'=>h v' w' (by rw [List.length_append,List.flatMap_append];exact hO) hC hb a' H'
end
def kB (m : Nat) (ps : List Nat) (h0 : Nat) : List Nat:=(List.range h0).filter fun k=>decide (m ≤ k ∧ k ∉ ps)
theorem Zch {m h0 b : Nat} {ps : List Nat} (h1 : b < h0) (h2 : m ≤ b) (h3 : b ∉ ps) : b ∈ kB m ps h0:=by
  simp [kB,h1,h2,h3]
theorem Zfk {m h0 b : Nat} {ps : List Nat} (h : b ∈ ps) : b ∉ kB m ps h0:=by
  simp [kB,h]
theorem Zfl {m h0 : Nat} {ps : List Nat} : ∀ b ∈ kB m ps h0,m ≤ b:=by
  intro b hb
  simp [kB] at hb
  exact hb.2.1
theorem Ur {b : Nat} : b ∉ ([] : List Nat):=by simp
theorem Jy {b c : Nat} {ps : List Nat} (h : b ≠ c) (h2 : b ∉ ps) : b ∉ c :: ps:=by simp [h,h2]
section
variable {fp : Nat → Prop} {w0 w : World} {rs : List Rs} {i j b E k n E2 k2 n2 T : Nat} {v v2 : Value} {xs xs2 cs : List Value}
theorem St.neOwn' (i j : Nat) (h : St fp w0 w rs) (hij : i ≠ j) (hi : rs[i]? = some (ownR E k v n xs)) (hj : rs[j]? = some (blkR b cs T)) : ∀ c ∈ Yq v,c ≠ b:=
  fun c hc e=>h.neOwn (Ne.symm hij) hj hi (e ▸ hc)
end
section
variable {P : Program} {t : TypeId} {w : World} {ad : Addr} {v : Value} {B : List Nat} {h0 o n c b : Nat} {A : Option Addr} {u : Value} {cs : List Value} {T : TypeId}
end
section
variable {P : Program} {ops : Array Oper} {Q : Exit → Act → World → Prop} {rest : List Oper} {a : Act} {n : Nat} {l : List (Nat × Option Value)} {w : World}
  {ty : TypeId} {pos : String} {af : Array Edge} {d : Nat} {v u r : Value}
variable {α : Type} {e : α → List Value} {E E2 k2 bytes : Nat} {z : List Value} {xss : List (List α)} {ys : List α} {fp : Nat → Prop} {w0 : World} {rs : List Rs}
end
section
variable {P : Program} {ops : Array Oper} {Q : Exit → Act → World → Prop} {a : Act} {n : Nat} {l : List (Nat × Option Value)} {w : World} {k0 fuel h0 : Nat} {listed : Array Bool} {B : List Nat}
  {ty : TypeId} {pos : String} {af : Array Edge} {d : Nat} {v u : Value}
variable {α : Type} {R : World → List Value → α → Prop} {E k m bytes : Nat} {z : List Value} {xs ys : List α} {css : List (List Value)} {fp : Nat → Prop} {w0 : World} {rs : List Rs}
theorem k_four (i j m o : Nat) (hr : Region.ready .any ops listed=[i,j,m,o]) (h1 : Zgs P ops Q k0 (ChgF B h0 w) fuel listed i a w) (h2 : Zgs P ops Q k0 (ChgF B h0 w) fuel listed j a w) (h3 : Zgs P ops Q k0 (ChgF B h0 w) fuel listed m a w) (h4 : Zgs P ops Q k0 (ChgF B h0 w) fuel listed o a w) : wpK P ops Q k0 (ChgF B h0 w) (fuel + 1) listed a w:=by
  refine⟨fun h=>(by rw [hr] at h;cases h),fun q hq=>?_⟩
  rw [hr] at hq
  simp only [List.mem_cons,List.not_mem_nil,or_false] at hq
  rcases hq with rfl|rfl|rfl|rfl
  · exact h1
  · exact h2
  · exact h3
  · exact h4
theorem Xl (i : Nat) (hr : Region.ready .any ops listed=[i]) (h : Zgs P ops Q k0 (ChgF B h0 w) fuel listed i a w) : wpK P ops Q k0 (ChgF B h0 w) (fuel + 1) listed a w:=by
  refine⟨fun h=>(by rw [hr] at h;cases h),fun q hq=>?_⟩
  rw [hr] at hq
  have:=List.mem_singleton.1 hq
  subst this
  exact h
theorem Yt {β : Type} {e : β → List Value} {z0 : β} (i : Nat) {x y : Operand} {T : Nat} {q1 q2 : IntKind} {L C : Nat} (H : Has a n l) (hi : ops[i]? = some ⟨some d,.makeSlice T x y,ty,pos,af,none⟩) (ht : P.underlying T=some (.slice E)) (hE : ElemOk P E k bytes z) (hz : e z0=z) (ex : lo l x=some (.int q1 L)) (ey : lo l y=some (.int q2 C)) (hLC : L ≤ C)
    (hb : C * bytes ≤ 140737488355328) (hm : C ≤ maxLen) (hd : Nat.blt d n=true)
    (h : ∀ b w',Own w' E k (.slice (some ⟨b,0,none⟩) L C) (List.replicate L z0).length ((List.replicate L z0).flatMap e) → Ext w w' → w.heap.size=b → ∀ a',Has a' n ((d,some (.slice (some ⟨b,0,none⟩) L C)) :: l) → wpK P ops Q k0 (ChgF B h0 w') fuel (listed.setIfInBounds i true) a' w') :
    Zgs P ops Q k0 (ChgF B h0 w) fuel listed i a w:=
  Wb i H hi ht hE ex ey hLC hb hm hd fun b w' hO he hs a' H'=>h b w' (by rw [List.length_replicate,List.flatMap,List.map_replicate,hz];exact hO) he hs a' H'
end
section
variable {α : Type} {R : World → List Value → α → Prop} {fp : Nat → Prop} {w0 w : World} {rs : List Rs} {E k n : Nat} {v : Value}
theorem St.mkDeep0 {zc : List Value} {z0 : α} (hk : zc.length=k) (h1 : ∀ u ∈ zc,u.oneCell' = true) (hz : ∀ w,R w zc z0) (h : St fp w0 w (ownR E k v n (List.replicate n zc).flatten :: rs)) : St fp w0 w (deepR E k R v (List.replicate n z0) :: rs):=by
  refine St.mkDeep (css:=List.replicate n zc) ?_
  rw [List.length_replicate]
  exact (h.trivAny (F:=DIn k R (List.replicate n zc) (List.replicate n z0)) (Zgz hk h1 hz n)).pick 1 rfl
end
end Go.Proofs.YtfemfiiagjnhdaaGreatDoor
set_option linter.unusedVariables false
set_option linter.unusedSimpArgs false
set_option linter.unusedSectionVars false
namespace Go.Proofs.YtfemfiiagjnhdaaGreatDoor
open Go Go.RowKit
section
variable {P : Program} {ops : Array Oper} {Q : Exit → Act → World → Prop} {rest : List Oper} {n : Nat} {l : List (Nat × Option Value)} {lc : List (Nat × (Nat × Bool) × Value)} {w : World}
  {op : Op} {ty : TypeId} {pos : String} {af : Array Edge} {d : Nat} {v : Value}
theorem W_q (q : Q1 P (lo l) op (Ext w) v) (hd : Nat.blt d n=true) (h : ∀ a',Has a' n ((d,some v) :: l) → wpList P ops Q rest a' w) : ∀ a,Has a n l → wpList P ops Q (⟨some d,op,ty,pos,af,none⟩ :: rest) a w:=
  fun a H=>n_q H q hd h
theorem Qm {j t : Nat} {want b : Bool} (hj : (ops[j]?).bind (·.dst)=some t) (ht : lk l t=some (.bool b)) (hb : b ≠ want) (hd : Nat.blt d n=true) (h : ∀ a',Has a' n ((d,some undef) :: l) → wpList P ops Q rest a' w) :
    ∀ a,Has a n l → wpList P ops Q (⟨some d,op,ty,pos,af,some (j,want)⟩ :: rest) a w:=fun a H=>Zaz H hj ht hb hd h
theorem Xn {dst : Option Nat} {j t : Nat} {want : Bool} (hj : (ops[j]?).bind (·.dst)=some t) (ht : lk l t=some (.bool want)) (h : ∀ a,Has a n l → wpList P ops Q (⟨dst,op,ty,pos,af,none⟩ :: rest) a w) :
    ∀ a,Has a n l → wpList P ops Q (⟨dst,op,ty,pos,af,some (j,want)⟩ :: rest) a w:=fun a H=>Wt H hj ht (h a H)
theorem V_q (q : Q1 P (lo l) op (Ext w) v) (hd : Nat.blt d n=true) (hk : okc ops d lc=true) (h : ∀ a',HasC ops a' n ((d,some v) :: l) lc → wpList P ops Q rest a' w) :
    ∀ a,HasC ops a n l lc → wpList P ops Q (⟨some d,op,ty,pos,af,none⟩ :: rest) a w:=fun a H=>Hk H q hd hk h
theorem V_g {g : Nat × Bool} (q : Q1 P (loc l lc g) op (Ext w) v) (hd : Nat.blt d n=true) (hk : okc ops d lc=true)
    (hg : (match (ops[g.1]?).bind (·.dst) with | some t=>!(Nat.beq t d) | none=>true)=true) (h : ∀ a',HasC ops a' n ((d,none) :: l) ((d,g,v) :: lc) → wpList P ops Q rest a' w) :
    ∀ a,HasC ops a n l lc → wpList P ops Q (⟨some d,op,ty,pos,af,some g⟩ :: rest) a w:=fun a H=>Ze3 H q hd hk hg h
theorem Zoz {j t r : Nat} {b u : Bool} (hj : (ops[j]?).bind (·.dst)=some t) (ht : lk l t=some (.bool b)) (hr : loc l lc (j,true) (.tmp r)=some (.bool u)) (hd : Nat.blt d n=true) (hk : okc ops d lc=true)
    (h : ∀ a',HasC ops a' n ((d,some (.bool (b && u))) :: l) lc → wpList P ops Q rest a' w) :
    ∀ a,HasC ops a n l lc → wpList P ops Q (⟨some d,.pick (.tmp t) (.tmp r) (.const (.bool false)),ty,pos,af,none⟩ :: rest) a w:=fun a H=>Zkj H hj ht hr hd hk h
theorem Zdz {j t r : Nat} {b u : Bool} (hj : (ops[j]?).bind (·.dst)=some t) (ht : lk l t=some (.bool b)) (hr : loc l lc (j,false) (.tmp r)=some (.bool u)) (hd : Nat.blt d n=true) (hk : okc ops d lc=true)
    (h : ∀ a',HasC ops a' n ((d,some (.bool (b || u))) :: l) lc → wpList P ops Q rest a' w) :
    ∀ a,HasC ops a n l lc → wpList P ops Q (⟨some d,.pick (.tmp t) (.const (.bool true)) (.tmp r),ty,pos,af,none⟩ :: rest) a w:=fun a H=>Zkk H hj ht hr hd hk h
end
end Go.Proofs.YtfemfiiagjnhdaaGreatDoor
set_option linter.unusedVariables false
set_option linter.unusedSimpArgs false
set_option linter.unusedSectionVars false
namespace Go.Proofs.YtfemfiiagjnhdaaGreatDoor
open Go Go.RowKit
section
variable {P : Program} {ops : Array Oper} {Q : Exit → Act → World → Prop} {a : Act} {n : Nat} {l : List (Nat × Option Value)} {w : World} {B : List Nat} {k0 h0 fuel : Nat} {listed : Array Bool}
end
section
variable {fp : Nat → Prop} {w0 w : World} {rs : List Rs} {r0 r1 r2 r3 r4 r5 r6 r7 r8 r9 r10 r11 : Rs}
theorem St.tk0 (h : St fp w0 w (rs)) : St fp w0 w []:=h.take 0
theorem St.tk1 (h : St fp w0 w (r0 :: rs)) : St fp w0 w [r0]:=h.take 1
theorem St.tk2 (h : St fp w0 w (r0 :: r1 :: rs)) : St fp w0 w [r0,r1]:=h.take 2
theorem St.tk3 (h : St fp w0 w (r0 :: r1 :: r2 :: rs)) : St fp w0 w [r0,r1,r2]:=h.take 3
theorem St.tk4 (h : St fp w0 w (r0 :: r1 :: r2 :: r3 :: rs)) : St fp w0 w [r0,r1,r2,r3]:=h.take 4
theorem St.tk5 (h : St fp w0 w (r0 :: r1 :: r2 :: r3 :: r4 :: rs)) : St fp w0 w [r0,r1,r2,r3,r4]:=h.take 5
theorem St.tk6 (h : St fp w0 w (r0 :: r1 :: r2 :: r3 :: r4 :: r5 :: rs)) : St fp w0 w [r0,r1,r2,r3,r4,r5]:=h.take 6
theorem St.tk7 (h : St fp w0 w (r0 :: r1 :: r2 :: r3 :: r4 :: r5 :: r6 :: rs)) : St fp w0 w [r0,r1,r2,r3,r4,r5,r6]:=h.take 7
theorem St.tk8 (h : St fp w0 w (r0 :: r1 :: r2 :: r3 :: r4 :: r5 :: r6 :: r7 :: rs)) : St fp w0 w [r0,r1,r2,r3,r4,r5,r6,r7]:=h.take 8
theorem St.tk9 (h : St fp w0 w (r0 :: r1 :: r2 :: r3 :: r4 :: r5 :: r6 :: r7 :: r8 :: rs)) : St fp w0 w [r0,r1,r2,r3,r4,r5,r6,r7,r8]:=h.take 9
theorem St.pk1 (h : St fp w0 w (r0 :: r1 :: rs)) : St fp w0 w (r1 :: r0 :: rs):=h.pick 1 rfl
theorem St.pk2 (h : St fp w0 w (r0 :: r1 :: r2 :: rs)) : St fp w0 w (r2 :: r0 :: r1 :: rs):=h.pick 2 rfl
theorem St.pk3 (h : St fp w0 w (r0 :: r1 :: r2 :: r3 :: rs)) : St fp w0 w (r3 :: r0 :: r1 :: r2 :: rs):=h.pick 3 rfl
theorem St.pk4 (h : St fp w0 w (r0 :: r1 :: r2 :: r3 :: r4 :: rs)) : St fp w0 w (r4 :: r0 :: r1 :: r2 :: r3 :: rs):=h.pick 4 rfl
theorem St.pk5 (h : St fp w0 w (r0 :: r1 :: r2 :: r3 :: r4 :: r5 :: rs)) : St fp w0 w (r5 :: r0 :: r1 :: r2 :: r3 :: r4 :: rs):=h.pick 5 rfl
theorem St.pk6 (h : St fp w0 w (r0 :: r1 :: r2 :: r3 :: r4 :: r5 :: r6 :: rs)) : St fp w0 w (r6 :: r0 :: r1 :: r2 :: r3 :: r4 :: r5 :: rs):=h.pick 6 rfl
theorem St.pk7 (h : St fp w0 w (r0 :: r1 :: r2 :: r3 :: r4 :: r5 :: r6 :: r7 :: rs)) : St fp w0 w (r7 :: r0 :: r1 :: r2 :: r3 :: r4 :: r5 :: r6 :: rs):=h.pick 7 rfl
theorem St.pk8 (h : St fp w0 w (r0 :: r1 :: r2 :: r3 :: r4 :: r5 :: r6 :: r7 :: r8 :: rs)) : St fp w0 w (r8 :: r0 :: r1 :: r2 :: r3 :: r4 :: r5 :: r6 :: r7 :: rs):=h.pick 8 rfl
theorem St.pk9 (h : St fp w0 w (r0 :: r1 :: r2 :: r3 :: r4 :: r5 :: r6 :: r7 :: r8 :: r9 :: rs)) : St fp w0 w (r9 :: r0 :: r1 :: r2 :: r3 :: r4 :: r5 :: r6 :: r7 :: r8 :: rs):=h.pick 9 rfl
theorem St.pk10 (h : St fp w0 w (r0 :: r1 :: r2 :: r3 :: r4 :: r5 :: r6 :: r7 :: r8 :: r9 :: r10 :: rs)) : St fp w0 w (r10 :: r0 :: r1 :: r2 :: r3 :: r4 :: r5 :: r6 :: r7 :: r8 :: r9 :: rs):=h.pick 10 rfl
end
end Go.Proofs.YtfemfiiagjnhdaaGreatDoor
set_option linter.unusedVariables false
set_option linter.unusedSimpArgs false
set_option linter.unusedSectionVars false
namespace Go.Proofs.YtfemfiiagjnhdaaGreatDoor
open Go Go.RowKit
section
variable {P : Program} {L : Operand → Option Value} {C : World → Prop} {x : Operand}
theorem Zjw {T e k len b o : Nat} (ht : P.underlying T=some (.array len e)) (hk : Xi P e=some k) (ex : L x=some (.pointer (some ⟨b,o,none⟩))) (hl : len ≠ 0) :
    Q1 P L (.slice T x none none none) C (.slice (some ⟨b,o,none⟩) len len):=
  fun ρ h w' _ dst ty pos af g=>by
    simp only [execOp,h x _ ex,Option.map_none]
    simp [Instr.sliceAt,Instr.sureAddr,run_underlying ht,Instr.sliceBounds,Jx hk,hl,Addr.add]
end
def cpyL (v : List UInt8) (s : ByteArray) : List UInt8:=s.data.toList.take v.length ++ v.drop s.size
theorem Zm1 (v : List UInt8) (s : ByteArray) : (cpyL v s).length=v.length:=by
  have : s.data.toList.length=s.size:=by simp [ByteArray.size_data]
  simp only [cpyL,List.length_append,List.length_take,List.length_drop,this];omega
def Zmi {n : Nat} (v : Vector UInt8 n) (s : ByteArray) : Vector UInt8 n:=⟨(cpyL v.toList s).toArray,by simp [Zm1]⟩
theorem Zk8 {n : Nat} (v : Vector UInt8 n) (s : ByteArray) : (Zmi v s).toList=cpyL v.toList s:=by simp [Zmi]
section
variable {P : Program} {ops : Array Oper} {Q : Exit → Act → World → Prop} {a : Act} {n : Nat} {l : List (Nat × Option Value)} {w : World} {B : List Nat} {k0 h0 fuel : Nat} {listed : Array Bool} {ty : TypeId} {pos : String} {af : Array Edge} {d : Nat}
theorem Zh3 {t t' e b o m T : Nat} {s : ByteArray} {cs : List Value} (ht : P.underlying t=some (.slice e)) (he : Xi P e=some 1) (hb : Blk w b cs T) (hl : o + m ≤ cs.length) :
    ∃ w',(Builtin.copy_ #[t,t'] ty #[.slice (some ⟨b,o,none⟩) m m,.string s]).run P w=.ok (goInt (Nat.min s.size m)) w' ∧
      Blk w' b (cs.take o ++ (s.data.toList.take m).map (fun c : UInt8=>Value.int .u8 (c.toNat : Int)) ++ cs.drop (o + Nat.min s.size m)) T ∧ Chg [b] w w' ∧ w'.heap.size=w.heap.size:=by
  have hs : s.data.toList.length=s.size:=by simp [ByteArray.size_data]
  have hex : (s.data.toList.map fun c : UInt8=>Value.int .u8 (c.toNat : Int)).take (Nat.min s.size m)=(s.data.toList.take m).map fun c : UInt8=>Value.int .u8 (c.toNat : Int):=by
    rw [List.map_take]
    by_cases h : s.size ≤ m
    · rw [show Nat.min s.size m=s.size from Nat.min_eq_left h,List.take_of_length_le (by simp [hs]),List.take_of_length_le (by simp [hs];exact h)]
    · rw [show Nat.min s.size m=m from Nat.min_eq_right (by omega)]
  have hvl : ((s.data.toList.take m).map fun c : UInt8=>Value.int .u8 (c.toNat : Int)).length=Nat.min s.size m:=by
    rw [List.length_map,List.length_take,hs];show min m s.size=min s.size m;omega
  obtain⟨w',hr,hb',hch,hsz⟩:=Ws P w b T ((s.data.toList.take m).map fun c : UInt8=>Value.int .u8 (c.toNat : Int)) 0 o cs hb (by rw [hvl];have : Nat.min s.size m ≤ m:=Nat.min_le_right _ _;omega) (by
    intro u hu
    obtain⟨c,_,rfl⟩:=List.mem_map.1 hu
    rfl)
  refine⟨w',?_,by rw [hvl] at hb';simpa using hb',hch,hsz⟩
  simp [Builtin.copy_,run_underlying ht,Jx he,Builtin.firstCells,Builtin.lenOf]
  rw [hex,hr];rfl
theorem Zk9 (i : Nat) {x y : Operand} {t t' e b o m T : Nat} {s : ByteArray} {cs : List Value} (H : Has a n l) (hi : ops[i]? = some ⟨some d,.call { callee:=.builtin .copy,args:=#[x,y],argTypes:=#[t,t'] },ty,pos,af,none⟩)
    (ht : P.underlying t=some (.slice e)) (he : Xi P e=some 1) (ex : lo l x=some (.slice (some ⟨b,o,none⟩) m m)) (ey : lo l y=some (.string s)) (hb : Blk w b cs T) (hl : o + m ≤ cs.length) (hd : Nat.blt d n=true)
    (hr : Region.ready .any ops listed=[i]) (hB : (b < h0 → b ∈ B) ∨ act k0 (listed.setIfInBounds i true)=false)
    (h : ∀ w',Blk w' b (cs.take o ++ (s.data.toList.take m).map (fun c : UInt8=>Value.int .u8 (c.toNat : Int)) ++ cs.drop (o + Nat.min s.size m)) T → Chg [b] w w' → w'.heap.size=w.heap.size → ∀ a',Has a' n ((d,some (.int .i64 (Nat.min s.size m : Nat))) :: l) → wpK P ops Q k0 (ChgF B h0 w') fuel (listed.setIfInBounds i true) a' w') :
    wpK P ops Q k0 (ChgF B h0 w) (fuel + 1) listed a w:=by
  obtain⟨w',hrr,hb',hch,hsz⟩:=Zh3 (ty:=ty) (t':=t') (m:=m) (s:=s) ht he hb hl
  refine Zkv i (w':=w') H hi (fun ρ hρ=>by simp [execOp,resolve,invoke,builtin,hρ x _ ex,hρ y _ ey,hrr,goInt]) hd hr ?_ (h w' hb' hch hsz)
  rcases hB with hB|hB
  · exact .inl (ChgF.of hch fun k hk h=>by rw [List.mem_singleton.1 hk] at h ⊢;exact hB h)
  · exact .inr hB
theorem Zla {A : List Value} {len : Nat} {v : Vector UInt8 len} {s : ByteArray} :
    (A ++ v.toList.map (fun c : UInt8=>Value.int .u8 (c.toNat : Int))).take A.length ++ (s.data.toList.take len).map (fun c : UInt8=>Value.int .u8 (c.toNat : Int)) ++ (A ++ v.toList.map (fun c : UInt8=>Value.int .u8 (c.toNat : Int))).drop (A.length + Nat.min s.size len)
      = A ++ (Zmi v s).toList.map (fun c : UInt8=>Value.int .u8 (c.toNat : Int)):=by
  have hv : v.toList.length=len:=by simp
  rw [Zk8,cpyL,hv,List.take_append_of_le_length (Nat.le_refl _),List.take_length,List.drop_append,List.map_append,List.append_assoc]
  congr 2
  rw [List.drop_of_length_le (by omega),List.nil_append,show A.length + Nat.min s.size len - A.length=Nat.min s.size len by omega,← List.map_drop]
  congr 1
  by_cases h : s.size ≤ len
  · rw [show Nat.min s.size len=s.size from Nat.min_eq_left h]
  · rw [show Nat.min s.size len=len from Nat.min_eq_right (by omega),List.drop_of_length_le (by omega),List.drop_of_length_le (by omega)]
end
theorem Zjb {k : Nat} {v : Value} {zs ds : List Value} (h : v.cells=ds.toArray) (hd : ds.length=k) (hz : zs.length=k) : Instr.fill (fun i=>some (i * k,k)) ((List.replicate 1 zs).flatten).toArray [(0,v)]=some ds.toArray:=by
  have e : (List.replicate 1 zs).flatten=zs:=by simp
  rw [e,fillA (ds:=ds) (n:=k) (off:=0) h hd (by simp) (by omega),List.take_zero,List.nil_append,Nat.zero_add,List.drop_of_length_le (by omega),List.append_nil]
  rfl
end Go.Proofs.YtfemfiiagjnhdaaGreatDoor
set_option linter.unusedVariables false
set_option linter.unusedSimpArgs false
set_option linter.unusedSectionVars false
namespace Go.Proofs.YtfemfiiagjnhdaaGreatDoor
open Go Go.RowKit
theorem Zm2 {α : Type} {n : Nat} (v : Vector α n) (f : α → Value) (i : Nat) (y : α) : (v.toList.map f).set (0 + i) (f y)=(v.setIfInBounds i y).toList.map f:=by rw [Nat.zero_add];exact Zox v f i y
theorem Zm3 {α : Type} {n : Nat} {v : Vector α n} {f : α → Value} {i : Nat} {x : α} (h : v[i]? = some x) : (v.toList.map f)[0 + i]? = some (f x):=by rw [Nat.zero_add];exact Zow h
theorem SlR.takeV {α : Type} {w : World} {k : Nat} {R : World → List Value → α → Prop} {v : Value} {xs : List α} {A : Option Addr} {n c : Nat} {z : Int} (h : SlR w k R v xs) (hv : v=.slice A n c) (h0 : 0 ≤ z) (h1 : z ≤ ((xs.length : Nat) : Int)) : SlR w k R (.slice A z.toNat c) (xs.take z.toNat):=by
  obtain⟨A',c',g1,g2,g3,g4,g5⟩:=h
  have e:=g1.symm.trans hv
  cases e
  refine⟨A,c,by rw [List.length_take,Nat.min_eq_left (by omega)],by rw [List.length_take];omega,g3,fun hA=>?_,fun ad ha i x hx=>?_⟩
  · obtain⟨e1,e2⟩:=g4 hA
    exact⟨by rw [e1];simp,e2⟩
  · rw [List.getElem?_take] at hx
    split at hx
    · exact g5 ad ha i x hx
    · cases hx
theorem SlR.takeV3 {α : Type} {w : World} {k : Nat} {R : World → List Value → α → Prop} {v : Value} {xs : List α} {A : Option Addr} {n c : Nat} {z : Int} (h : SlR w k R v xs) (hv : v=.slice A n c) (h0 : 0 ≤ z) (h1 : z ≤ ((xs.length : Nat) : Int)) : SlR w k R (.slice A z.toNat z.toNat) (xs.take z.toNat):=by
  obtain⟨A',c',g1,g2,g3,g4,g5⟩:=h
  have e:=g1.symm.trans hv
  cases e
  refine⟨A,z.toNat,by rw [List.length_take,Nat.min_eq_left (by omega)],by rw [List.length_take];omega,by omega,fun hA=>?_,fun ad ha i x hx=>?_⟩
  · obtain⟨e1,e2⟩:=g4 hA
    exact⟨by rw [e1];simp,by rw [e1] at h1;simp at h1;omega⟩
  · rw [List.getElem?_take] at hx
    split at hx
    · exact g5 ad ha i x hx
    · cases hx
theorem eB_xor (a b : Int) : eB (Qq (Yr .u8 a b))=[.int .u8 (Yr .u8 a b)]:=by
  have h : 0 ≤ Yr .u8 a b ∧ Yr .u8 a b < 256:=by
    unfold Yr
    generalize ((BitVec.ofInt IntKind.u8.bits a ^^^ BitVec.ofInt IntKind.u8.bits b).toNat : Int)=z
    have h : IntKind.u8.wrap z=z % 256:=by simp [IntKind.wrap,IntKind.signed,IntKind.bits]
    rw [h];omega
  exact Zi7 h.1 h.2
section
variable {P : Program} {ops : Array Oper} {Q : Exit → Act → World → Prop} {rest : List Oper} {a : Act} {n : Nat} {l : List (Nat × Option Value)} {w : World} {B : List Nat} {k0 h0 : Nat}
  {op : Op} {ty : TypeId} {pos : String} {af : Array Edge} {d fuel : Nat} {listed : Array Bool} {α : Type} {e : α → List Value} {E k i j o c n0 : Nat} {v u : Value} {xs : List α} {x0 x' : α} {ad : Addr} {A : Option Addr} {t : TypeId} {x y : Operand}
theorem Zlb (q : Nat) (H : Has a n l) (hq : ops[q]? = some ⟨none,.store t x y,ty,pos,af,none⟩) (ex : lo l x=some (.pointer (some (ad.add (i * k))))) (ey : lo l y=some u) (hs : Xi P t=some k) (hO : Own w E k v xs.length (xs.flatMap e)) (hv : v=.slice A n0 c) (hA : A=some ad) (hi : i < xs.length)
    (hu : u.cells=(e x').toArray) (h1 : ∀ c ∈ e x',c.oneCell' = true) (hl : ∀ z,(e z).length=k) (hr : Region.ready .any ops listed=[q]) (hB : (∀ b ∈ Yq v,b < h0 → b ∈ B) ∨ act k0 (listed.setIfInBounds q true)=false)
    (h : ∀ w',Own w' E k v (xs.set i x').length ((xs.set i x').flatMap e) → Chg (Yq v) w w' → ∀ a',Has a' n l → wpK P ops Q k0 (ChgF B h0 w') fuel (listed.setIfInBounds q true) a' w') :
    wpK P ops Q k0 (ChgF B h0 w) (fuel + 1) listed a w:=by
  rcases hO with ⟨rfl,hz,_⟩ | ⟨b,cap,cs,rfl,hBl,h2,h3,h4,h5,h6⟩
  · omega
  · cases hv;cases hA
    rw [Ks] at ex
    have hik : i * k + k ≤ xs.length * k:=by
      have:=Nat.mul_le_mul_right k (show i + 1 ≤ xs.length from hi)
      rwa [Nat.succ_mul] at this
    have hc:=Nat.mul_le_mul_right k h2
    refine Zhz (vs:=e x') q H hq ex ey hu (by rw [hs,hl]) hBl (by rw [hl];omega) h1 hr (hB.imp (fun f hlt=>f b (by simp [Yq]) hlt) id) fun w' hB' hC _ a' H'=>?_
    refine h w' ?_ (by simpa [Yq] using hC) a' H'
    have:=Own.splice (vs:=e x') (o:=i * k) h2 h3 h4 h6 h5 (by rw [hl];omega) hB'
    rw [Zec hl x' xs i hi] at this
    rw [List.length_set]
    exact this
end
section
variable {P : Program} {ops : Array Oper} {Q : Exit → Act → World → Prop} {k0 : Nat} {S : World → Prop}
end
section
variable {P : Program} {ops : Array Oper} {Q : Exit → Act → World → Prop} {a : Act} {n : Nat} {l : List (Nat × Option Value)} {w : World} {B : List Nat} {k0 h0 : Nat}
  {op : Op} {ty : TypeId} {pos : String} {af : Array Edge} {d fuel : Nat} {v : Value} {listed : Array Bool}
end
end Go.Proofs.YtfemfiiagjnhdaaGreatDoor
set_option linter.unusedVariables false
set_option linter.unusedSimpArgs false
set_option linter.unusedSectionVars false
namespace Go.Proofs.YtfemfiiagjnhdaaGreatDoor
open Go Go.RowKit
structure RawC (k : Nat) where
  cs : List Value
  len : cs.length=k
  one : ∀ u ∈ cs,u.oneCell' = true
section
variable {α : Type} {R : World → List Value → α → Prop} {E k n : Nat} {v u : Value} {xs : List α} {x : α} {fp : Nat → Prop} {w0 w w' : World} {rs : List Rs}
theorem DIn.drop : ∀ {j : Nat} {css : List (List Value)} {xs : List α},DIn k R css xs w → DIn k R (css.drop j) (xs.drop j) w
  | 0,_,_,h=>h
  | j + 1,[],[],_=>trivial
  | j + 1,c :: css,x :: xs,⟨_,h⟩=>DIn.drop (j := j) h
  | j + 1,[],x :: xs,h=>h.elim
  | j + 1,c :: css,[],h=>h.elim
end
section
variable {P : Program} {ops : Array Oper} {Q : Exit → Act → World → Prop} {rest : List Oper} {a : Act} {n : Nat} {l : List (Nat × Option Value)} {w : World}
  {ty : TypeId} {pos : String} {af : Array Edge} {d : Nat} {v u : Value} {k0 fuel h0 : Nat} {listed : Array Bool} {B : List Nat}
variable {α : Type} {R : World → List Value → α → Prop} {E k : Nat} {xs : List α} {x0 x' : α} {w0 : World} {rs : List Rs}
variable {A : Option Addr} {ad : Addr} {x y : Operand} {t m n0 cap i c o : Nat} {F : World → Prop}
end
section
variable {α : Type} {g : α → Nat → Rs} {v : Value} {x : α} {o : Option α} {fp : Nat → Prop} {w0 w : World} {rs : List Rs} {b : Nat}
def optR (g : α → Nat → Rs) (v : Value) : Option α → Rs
  | none=>pureR (v=.pointer none)
  | some x=>exR fun b : Nat=>starR [pureR (v=.pointer (some ⟨b,0,none⟩)),g x b]
theorem St.optNone (g : α → Nat → Rs) (h : St fp w0 w rs) : St fp w0 w (optR g (.pointer none) none :: rs):=h.mkPure rfl
theorem St.optSome (x : α) (h : St fp w0 w (g x b :: rs)) : St fp w0 w (optR g (.pointer (some ⟨b,0,none⟩)) (some x) :: rs):=
  St.mkEx (f:=fun b' : Nat=>starR [pureR (Value.pointer (some ⟨b,0,none⟩)=.pointer (some ⟨b',0,none⟩)),g x b']) b ((h.mkPure rfl).fold [_,_])
theorem St.optOpen (hx : o=some x) (h : St fp w0 w (optR g v o :: rs)) : ∃ b,v=.pointer (some ⟨b,0,none⟩) ∧ St fp w0 w (g x b :: rs):=by
  subst hx
  obtain⟨b,h⟩:=St.ex (f:=fun b : Nat=>starR [pureR (v=.pointer (some ⟨b,0,none⟩)),g x b]) h
  obtain⟨hv,h⟩:=h.star.pure
  exact⟨b,hv,h⟩
end
end Go.Proofs.YtfemfiiagjnhdaaGreatDoor
set_option linter.unusedVariables false
set_option linter.unusedSimpArgs false
set_option maxRecDepth 10000
namespace Go.Proofs.YtfemfiiagjnhdaaGreatDoor
open Go Go.RowKit
theorem ag4 : Hr Tryz.prog 4=some false:=by kernel_rfl
theorem ag9 : Hr Tryz.prog 9=some false:=by kernel_rfl
abbrev Kz : Nat:=5
abbrev Zjx : Nat:=8
abbrev Zjy : Nat:=9
abbrev Jf : Nat:=10
abbrev Yy : Nat:=7
abbrev gSum : Nat:=11
abbrev Zf4 : Nat:=6
abbrev Uz : Nat:=4
abbrev Hd : Nat:=12
abbrev gArg : Nat:=2
abbrev erQ (A : Nat → Addr) (u : Value) (e : ErrM) : Rs:=anyR fun w=>IsE A w u e
section
variable {fp : Nat → Prop} {w0 w : World} {rs : List Rs} {A : Nat → Addr} {b g : Nat} {p : Int}
theorem St.dAt (hg : g ∈ Zmr) (h : St fp w0 w (blkR b [.int .i64 p,sv 340 A g] 214 :: rs)) : St fp w0 w (erQ A (.iface 210 (.pointer (some ⟨b,0,none⟩))) (.pl p g) :: rs):=h.blkAny (fun w' h=>Xa.mk hg h)
theorem St.dVar (hg : g ∈ Zmr) (h : St fp w0 w rs) : St fp w0 w (erQ A (sv 340 A g) (.v g) :: rs):=h.trivAny fun w'=>⟨hg,rfl⟩
theorem St.dAtE {r e : ErrM} {u : Value} {w2 : World} (hI : IsE A w2 u e) (he : Zm0 p e=some r) (h : St fp w0 w (blkR b [.int .i64 p,u] 214 :: rs)) : St fp w0 w (erQ A (.iface 210 (.pointer (some ⟨b,0,none⟩))) r :: rs):=by
  obtain⟨g,rfl,rfl⟩:=Zjt he
  obtain⟨hg,rfl⟩:=hI
  exact h.dAt hg
theorem St.dNil (h : St fp w0 w rs) : St fp w0 w (erQ A .nilIface .nil :: rs):=h.trivAny fun w'=>rfl
end
def pickE : List (Value × ErrM) → Value × ErrM
  | []=>(.nilIface,.nil)
  | p :: l=>if p.2=.nil then pickE l else p
def Zdm : List ErrM → ErrM
  | []=>.nil
  | m :: l=>if m=.nil then Zdm l else m
theorem Zlc : ∀ ps : List (Value × ErrM),(pickE ps).2=Zdm (ps.map Prod.snd)
  | []=>rfl
  | p :: l=>by
    by_cases h : p.2=.nil
    · simp only [pickE,Zdm,List.map_cons,h,if_true,Zlc l]
    · simp only [pickE,Zdm,List.map_cons,h,if_false]
def REr (A : Nat → Addr) (w : World) (cs : List Value) (p : Value × ErrM) : Prop:=cs=[p.1] ∧ IsE A w p.1 p.2
theorem REr.mono (A : Nat → Addr) : Zhy (REr A):=fun _ _ _ _ e h=>⟨h.1,h.2.agr e⟩
section
variable {fp : Nat → Prop} {w0 w : World} {rs : List Rs} {A : Nat → Addr}
theorem St.dropMid {a : Rs} : ∀ {ms : List Rs},St fp w0 w (a :: (ms ++ rs)) → St fp w0 w (a :: rs)
  | [],h=>h
  | m :: ms,h=>St.dropMid (ms := ms) (St.tail (h.pick 1 rfl))
theorem St.pickE_ (ps : List (Value × ErrM)) : St fp w0 w (ps.map (fun p=>erQ A p.1 p.2) ++ rs) → St fp w0 w (erQ A (pickE ps).1 (pickE ps).2 :: rs):=by
  induction ps with
  | nil=>exact fun h=>h.dNil
  | cons p ps ih=>
    intro h
    by_cases e : p.2=.nil
    · have : pickE (p :: ps)=pickE ps:=by simp only [pickE,e,if_true]
      rw [this];exact ih h.tail
    · have : pickE (p :: ps)=p:=by simp only [pickE,e,if_false]
      rw [this];exact St.dropMid h
theorem St.pickE (ps : List (Value × ErrM)) {l : List Rs} (hl : l=ps.map (fun p=>erQ A p.1 p.2) ++ rs) (h : St fp w0 w l) : St fp w0 w (erQ A (pickE ps).1 (Zdm (ps.map Prod.snd)) :: rs):=by
  subst hl;rw [← Zlc];exact h.pickE_ ps
end
structure GPagePlan where
  Rights : Int
  Init : ByteArray
  deriving DecidableEq
def Qg (x : GPagePlan) : List Value:=[.int .i64 x.Rights,.string x.Init]
theorem Zbr (x : GPagePlan) : ∀ u ∈ Qg x,u.oneCell' = true:=by
  intro u hu
  simp only [Qg,List.mem_append,List.mem_cons,List.mem_map,List.not_mem_nil,or_false] at hu
  rcases hu with rfl|rfl <;> rfl
structure GProcPlan where
  Entry : Int
  Prio : Int
  Auto : Bool
  deriving DecidableEq
def Qe (x : GProcPlan) : List Value:=[.int .i64 x.Entry,.int .i64 x.Prio,.bool x.Auto]
theorem Zbs (x : GProcPlan) : ∀ u ∈ Qe x,u.oneCell' = true:=by
  intro u hu
  simp only [Qe,List.mem_append,List.mem_cons,List.mem_map,List.not_mem_nil,or_false] at hu
  rcases hu with rfl|rfl|rfl <;> rfl
structure GPortPlan where
  Kind : Int
  Size : Int
  Depth : Int
  Refresh : Int
  deriving DecidableEq
def Zw (x : GPortPlan) : List Value:=[.int .i64 x.Kind,.int .i64 x.Size,.int .i64 x.Depth,.int .i64 x.Refresh]
theorem Zbt (x : GPortPlan) : ∀ u ∈ Zw x,u.oneCell' = true:=by
  intro u hu
  simp only [Zw,List.mem_append,List.mem_cons,List.mem_map,List.not_mem_nil,or_false] at hu
  rcases hu with rfl|rfl|rfl|rfl <;> rfl
structure GPlan where
  Id : Int
  Mobile : Bool
  Pages : List GPagePlan
  Procs : List GProcPlan
  Ports : List GPortPlan
  Events : Int
  Sems : List Int
  deriving DecidableEq
def Xm (w : World) (cs : List Value) (x : GPlan) : Prop:=∃ v0 v1 v2 v3,cs=[.int .i64 x.Id,.bool x.Mobile,v0,v1,v2,.int .i64 x.Events,v3] ∧ SlR w 2 (Zq Qg) v0 x.Pages ∧ SlR w 3 (Zq Qe) v1 x.Procs ∧ SlR w 4 (Zq Zw) v2 x.Ports ∧ SlR w 1 (Zq eI) v3 x.Sems
theorem Xm.mono : Zhy Xm:=by
  intro w w' cs x e h
  obtain⟨v0,v1,v2,v3,rfl,h0,h1,h2,h3⟩:=h
  exact⟨v0,v1,v2,v3,rfl,h0.agr (Zq.mono _) e,h1.agr (Zq.mono _) e,h2.agr (Zq.mono _) e,h3.agr (Zq.mono _) e⟩
noncomputable def Wi : Option GPlan:=some (⟨3,true,[(⟨5,⟨#[97,98]⟩⟩ : GPagePlan),(⟨3,⟨#[]⟩⟩ : GPagePlan)],[(⟨0,7,true⟩ : GProcPlan),(⟨64,9,false⟩ : GProcPlan)],[(⟨1,4,1,2⟩ : GPortPlan),(⟨4,8,2,0⟩ : GPortPlan)],1,[2]⟩ : GPlan)
noncomputable def Gq (a0 : Int) (a1 : ErrM) : Option ErrM:=(Zm0 a0 a1).bind fun aA=>some aA
noncomputable def Jc (a0 : GPlan) : Nat → Option (Nat ⊕ (Unit ⊕ ErrM)):=fun aA=>(bif decide (aA < a0.Pages.length) then (a0.Pages[aA]?).bind fun aB=>(bif (decide (aB.Rights < 0) || decide (7 < aB.Rights)) then (Gq ((aA : Nat) : Int) (.v Jf)).bind fun aC=>some (.inr (.inr aC)) else (bif decide (64 < aB.Init.size) then (Gq ((aA : Nat) : Int) (.v Yy)).bind fun aD=>some (.inr (.inr aD)) else some (.inl (aA + 1)))) else some (.inr (.inl ())))
noncomputable def Yz (a0 : GPlan) : Option ErrM:=(bif (decide (a0.Pages.length < 1) || decide (32 < a0.Pages.length)) then some (.v Hd) else (Uj (Jc a0) 0).bind (fun q=>match q with | .inl _=>some .nil | .inr p=>some p))
noncomputable def Yu (aA : Nat) : Bool → Option (Nat ⊕ (Unit ⊕ ErrM)):=fun aB=>(bif aB then (Gq ((aA : Nat) : Int) (.v Jf)).bind fun aC=>some (.inr (.inr aC)) else some (.inl (aA + 1)))
noncomputable def Jd (a0 : GPlan) : Nat → Option (Nat ⊕ (Unit ⊕ ErrM)):=fun aB=>(bif decide (aB < a0.Procs.length) then (a0.Procs[aB]?).bind fun aA=>(((bif decide (aA.Entry < 0) then some true else (bif decide ((IntKind.i64.wrap (64 * ((a0.Pages.length : Nat) : Int))) ≤ aA.Entry) then some true else (bif (!decide ((Int.tmod aA.Entry 4)=0)) then some true else (bif decide (aA.Prio < 0) then some true else some (decide (255 < aA.Prio))))))) : Option Bool).bind (fun p=>(Yu aB) p) else some (.inr (.inl ())))
noncomputable def Va (a0 : GPlan) : Option ErrM:=(bif (decide (a0.Procs.length < 1) || decide (8 < a0.Procs.length)) then some (.v Hd) else (Uj (Jd a0) 0).bind (fun q=>match q with | .inl _=>some .nil | .inr p=>some p))
noncomputable def Gi (a0 : GPortPlan) : Option Bool:=some (decide (a0.Kind=3) || decide (a0.Kind=4))
noncomputable def Zap (a0 : GPortPlan) : Option Bool:=some (decide (a0.Kind=1) || decide (a0.Kind=3))
noncomputable def Uk (a0 : GPortPlan) : Option Bool:=some (decide (a0.Kind=2) || decide (a0.Kind=4))
noncomputable def Vk (a0 : GPortPlan) (aC : Nat) (aA : Nat) : Bool → Option ErrM:=fun aB=>(bif aB then some (.v Zf4) else (bif (decide (a0.Size < 1) || decide (32 < a0.Size)) then some (.v Hd) else (bif (((decide (a0.Depth < 1) || decide (((aC : Nat) : Int) < a0.Depth)) || decide (a0.Refresh < 0)) || decide (((aA : Nat) : Int) < a0.Refresh)) then some (.v Jf) else some .nil)))
noncomputable def Vl (a0 : GPortPlan) (aD : Nat) : Nat → Option ErrM:=fun aA=>(((Zap a0).bind fun aB=>(bif (!aB) then (Uk a0).bind fun aC=>some (!aC) else some false)) : Option Bool).bind (fun p=>(Vk a0 aD aA) p)
noncomputable def Vm (a0 : GPortPlan) : Nat → Option ErrM:=fun aA=>(((bif decide (a0.Kind=1) then some 255 else some 0)) : Option Nat).bind (fun p=>(Vl a0 aA) p)
noncomputable def Yb (a0 : GPortPlan) : Option ErrM:=(((Gi a0).bind fun aA=>(bif aA then some 8 else some 1)) : Option Nat).bind (fun p=>(Vm a0) p)
noncomputable def Hw (a0 : GPortPlan) : Option (Int × ErrM):=(Yb a0).bind fun aA=>(bif (!decide (aA=.nil)) then some (0,(.v Uz)) else (Uk a0).bind fun aB=>(bif aB then some (2,.nil) else some ((IntKind.i64.wrap (2 + (IntKind.i64.wrap (a0.Depth * (IntKind.i64.wrap (1 + a0.Size)))))),.nil)))
noncomputable def Vb (a0 : GPlan) : (Int × Nat) → Option ((Int × Nat) ⊕ Int):=fun (aB,aA)=>(bif decide (aA < a0.Ports.length) then (a0.Ports[aA]?).bind fun aC=>(Hw aC).bind fun aD=>some (.inl ((IntKind.i64.wrap (aB + (IntKind.i64.wrap (3 + aD.1)))),aA + 1)) else some (.inr aB))
noncomputable def Ul (a0 : GPlan) : Option Int:=(Uj (Vb a0) ((IntKind.i64.wrap ((IntKind.i64.wrap ((IntKind.i64.wrap ((IntKind.i64.wrap (58 + (IntKind.i64.wrap (76 * ((a0.Procs.length : Nat) : Int))))) + (IntKind.i64.wrap (68 * ((a0.Pages.length : Nat) : Int))))) + a0.Events)) + ((a0.Sems.length : Nat) : Int))),0)).bind (fun aA=>some aA)
noncomputable def Ji (a0 : GPlan) : Nat → Option (Nat ⊕ (Unit ⊕ ErrM)):=fun aA=>(bif decide (aA < a0.Sems.length) then (a0.Sems[aA]?).bind fun aB=>(bif (decide (aB < 0) || decide (255 < aB)) then (Gq ((aA : Nat) : Int) (.v Jf)).bind fun aC=>some (.inr (.inr aC)) else some (.inl (aA + 1))) else some (.inr (.inl ())))
noncomputable def Jj (a0 : GPlan) : Nat → Option (Nat ⊕ (Unit ⊕ ErrM)):=fun aA=>(bif decide (aA < a0.Ports.length) then (a0.Ports[aA]?).bind fun aC=>(Yb aC).bind fun aB=>(bif (!decide (aB=.nil)) then (Gq ((aA : Nat) : Int) aB).bind fun aD=>some (.inr (.inr aD)) else some (.inl (aA + 1))) else some (.inr (.inl ())))
noncomputable def Vq (a0 : GPlan) : Option ErrM:=(bif decide (8 < a0.Ports.length) then some (.v Hd) else (Uj (Jj a0) 0).bind (fun q=>match q with | .inl _=>(bif (decide (a0.Events < 0) || decide (8 < a0.Events)) then some (.v Jf) else (bif decide (8 < a0.Sems.length) then some (.v Hd) else (Uj (Ji a0) 0).bind (fun q=>match q with | .inl _=>(Ul a0).bind fun aA=>(bif decide (4096 < aA) then some (.v Hd) else some .nil) | .inr p=>some p))) | .inr p=>some p))
noncomputable def Js (a0 : GPlan) : Option ErrM:=(bif (decide (a0.Id < 0) || decide (2147483647 < a0.Id)) then some (.v Jf) else (Yz a0).bind fun aA=>(bif (!decide (aA=.nil)) then some aA else (Va a0).bind fun aB=>(bif (!decide (aB=.nil)) then some aB else (Vq a0).bind fun aC=>(bif (!decide (aC=.nil)) then some aC else some .nil))))
structure GWireWriter where
  buf_ : List UInt8
  err_ : ErrM
  deriving DecidableEq
noncomputable def Je : Option GWireWriter:=some (⟨([] : List UInt8),.nil⟩ : GWireWriter)
noncomputable def Xb (a0 : List UInt8) : Option (List UInt8):=chk ((([] : List UInt8).length + a0.length) * 1 ≤ 140737488355328) (some (([] : List UInt8) ++ a0))
noncomputable def Xz (a0 : GWireWriter) : Option (List UInt8 × ErrM × GWireWriter):=(bif (!decide (a0.err_=.nil)) then some (([] : List UInt8),a0.err_,(⟨a0.buf_,a0.err_⟩ : GWireWriter)) else (Xb a0.buf_).bind fun aA=>some (aA,.nil,(⟨a0.buf_,a0.err_⟩ : GWireWriter)))
noncomputable def Xe (a0 : GWireWriter) (a1 : List UInt8) : Option GWireWriter:=(bif decide (a0.err_=.nil) then chk ((a0.buf_.length + a1.length) * 1 ≤ 140737488355328) (some (⟨(a0.buf_ ++ a1),a0.err_⟩ : GWireWriter)) else some (⟨a0.buf_,a0.err_⟩ : GWireWriter))
noncomputable def Jk (a0 : Int) : Option Int:=chk (0 ≤ (IntKind.i64.wrap (8 * a0))) (some (IntKind.i64.wrap ((shL .i64 1 (IntKind.i64.wrap (8 * a0))) - 1)))
noncomputable def Jt (a0 : Int) (a1 : ErrM) : Option ErrM:=(Zm0 a0 a1).bind fun aA=>some aA
noncomputable def Kv (a0 : GWireWriter) (a1 : ErrM) : Option GWireWriter:=(bif decide (a0.err_=.nil) then (Jt ((a0.buf_.length : Nat) : Int) a1).bind fun aA=>some (⟨a0.buf_,aA⟩ : GWireWriter) else some (⟨a0.buf_,a0.err_⟩ : GWireWriter))
noncomputable def Xp (a1 : Int) : (Int × List UInt8 × ErrM) → Option ((Int × List UInt8 × ErrM) ⊕ (List UInt8 × ErrM)):=fun (aA,aB,aC)=>(bif decide (0 ≤ aA) then chk (0 ≤ (IntKind.i64.wrap (8 * aA))) ((Xe (⟨aB,aC⟩ : GWireWriter) [(Qq (shR .i64 a1 (IntKind.i64.wrap (8 * aA))))]).bind fun aD=>some (.inl ((IntKind.i64.wrap (aA - 1)),aD.buf_,aD.err_))) else some (.inr (aB,aC)))
noncomputable def Yv (a0 : GWireWriter) (a1 : Int) (a2 : Int) : Bool → Option GWireWriter:=fun aB=>(bif aB then (Kv (⟨a0.buf_,a0.err_⟩ : GWireWriter) (.v Jf)).bind fun aA=>some (⟨aA.buf_,aA.err_⟩ : GWireWriter) else (Uj (Xp a1) ((IntKind.i64.wrap (a2 - 1)),a0.buf_,a0.err_)).bind (fun (aC,aD)=>some (⟨aC,aD⟩ : GWireWriter)))
noncomputable def Qj (a0 : GWireWriter) (a1 : Int) (a2 : Int) : Option GWireWriter:=(((bif decide (a1 < 0) then some true else (Jk a2).bind fun aA=>some (decide (aA < a1)))) : Option Bool).bind (fun p=>(Yv a0 a1 a2) p)
noncomputable def Km (a0 : GWireWriter) (a1 : Int) (a2 : List UInt8) : Bool → Option GWireWriter:=fun aF=>(bif aF then (Kv (⟨a0.buf_,a0.err_⟩ : GWireWriter) (.v Zjy)).bind fun aA=>some (⟨aA.buf_,aA.err_⟩ : GWireWriter) else (bif decide (65535 < a2.length) then (Kv (⟨a0.buf_,a0.err_⟩ : GWireWriter) (.v Yy)).bind fun aB=>some (⟨aB.buf_,aB.err_⟩ : GWireWriter) else (Qj (⟨a0.buf_,a0.err_⟩ : GWireWriter) a1 1).bind fun aC=>(Qj (⟨aC.buf_,aC.err_⟩ : GWireWriter) ((a2.length : Nat) : Int) 2).bind fun aD=>(Xe (⟨aD.buf_,aD.err_⟩ : GWireWriter) a2).bind fun aE=>some (⟨aE.buf_,aE.err_⟩ : GWireWriter)))
noncomputable def Kj (a0 : GWireWriter) (a1 : Int) (a2 : List UInt8) : Option GWireWriter:=(((bif decide (a1 < 1) then some true else (Jk 1).bind fun aA=>some (decide (aA < a1)))) : Option Bool).bind (fun p=>(Km a0 a1 a2) p)
noncomputable def Kn (a0 : GWireWriter) (a1 : Int) (a2 : GWireWriter → Option GWireWriter) : Option GWireWriter:=(Je).bind fun aA=>(a2 (⟨aA.buf_,aA.err_⟩ : GWireWriter)).bind fun aB=>(Xz (⟨aB.buf_,aB.err_⟩ : GWireWriter)).bind fun aD=>(Kj (⟨a0.buf_,a0.err_⟩ : GWireWriter) a1 aD.1).bind fun aC=>some (⟨aC.buf_,aC.err_⟩ : GWireWriter)
noncomputable def Jl (a0 : GWireWriter) (a1 : List UInt8) : Option GWireWriter:=(Xe (⟨a0.buf_,a0.err_⟩ : GWireWriter) a1).bind fun aA=>some (⟨aA.buf_,aA.err_⟩ : GWireWriter)
noncomputable def Qu (a0 : GWireWriter) (a1 : Int) : Option GWireWriter:=(Qj (⟨a0.buf_,a0.err_⟩ : GWireWriter) a1 1).bind fun aA=>some (⟨aA.buf_,aA.err_⟩ : GWireWriter)
noncomputable def Kc (a0 : GWireWriter) (a1 : GPagePlan) : Option GWireWriter:=(Qu (⟨a0.buf_,a0.err_⟩ : GWireWriter) a1.Rights).bind fun aA=>chk (a1.Init.size ≤ 9223372036854775807) ((Jl (⟨aA.buf_,aA.err_⟩ : GWireWriter) a1.Init.data.toList).bind fun aB=>some (⟨aB.buf_,aB.err_⟩ : GWireWriter))
noncomputable def Jm (a0 : GWireWriter) (a1 : Int) : Option GWireWriter:=(Qj (⟨a0.buf_,a0.err_⟩ : GWireWriter) a1 4).bind fun aA=>some (⟨aA.buf_,aA.err_⟩ : GWireWriter)
noncomputable def Jz (a0 : GWireWriter) (a1 : Bool) : Option GWireWriter:=(bif a1 then (Xe (⟨a0.buf_,a0.err_⟩ : GWireWriter) [(Qq 1)]).bind fun aA=>some (⟨aA.buf_,aA.err_⟩ : GWireWriter) else (Xe (⟨a0.buf_,a0.err_⟩ : GWireWriter) [(Qq 0)]).bind fun aB=>some (⟨aB.buf_,aB.err_⟩ : GWireWriter))
noncomputable def Kd (a0 : GWireWriter) (a1 : GProcPlan) : Option GWireWriter:=(Jm (⟨a0.buf_,a0.err_⟩ : GWireWriter) a1.Entry).bind fun aA=>(Qu (⟨aA.buf_,aA.err_⟩ : GWireWriter) a1.Prio).bind fun aB=>(Jz (⟨aB.buf_,aB.err_⟩ : GWireWriter) a1.Auto).bind fun aC=>some (⟨aC.buf_,aC.err_⟩ : GWireWriter)
noncomputable def Ke (a0 : GWireWriter) (a1 : GPortPlan) : Option GWireWriter:=(Qu (⟨a0.buf_,a0.err_⟩ : GWireWriter) a1.Kind).bind fun aA=>(Qu (⟨aA.buf_,aA.err_⟩ : GWireWriter) a1.Size).bind fun aB=>(Qu (⟨aB.buf_,aB.err_⟩ : GWireWriter) a1.Depth).bind fun aC=>(Qu (⟨aC.buf_,aC.err_⟩ : GWireWriter) a1.Refresh).bind fun aD=>some (⟨aD.buf_,aD.err_⟩ : GWireWriter)
noncomputable def Kf (a0 : GWireWriter) (a1 : GPlan) : Option GWireWriter:=(Qu (⟨a0.buf_,a0.err_⟩ : GWireWriter) a1.Events).bind fun aA=>some (⟨aA.buf_,aA.err_⟩ : GWireWriter)
noncomputable def Jn (a1 : GPlan) : (Nat × List UInt8 × ErrM) → Option ((Nat × List UInt8 × ErrM) ⊕ (List UInt8 × ErrM)):=fun (aA,aB,aC)=>(bif decide (aA < a1.Sems.length) then (a1.Sems[aA]?).bind fun aE=>(Qu (⟨aB,aC⟩ : GWireWriter) aE).bind fun aD=>some (.inl (aA + 1,aD.buf_,aD.err_)) else some (.inr (aB,aC)))
noncomputable def Kg (a0 : GWireWriter) (a1 : GPlan) : Option GWireWriter:=(Uj (Jn a1) (0,a0.buf_,a0.err_)).bind (fun (aA,aB)=>some (⟨aA,aB⟩ : GWireWriter))
noncomputable def Ko (a0 : GPlan) : (Nat × List UInt8 × ErrM) → Option ((Nat × List UInt8 × ErrM) ⊕ (List UInt8 × ErrM)):=fun (aA,aC,aD)=>(bif decide (aA < a0.Ports.length) then (a0.Ports[aA]?).bind fun aE=>(Kn (⟨aC,aD⟩ : GWireWriter) 3 (fun x0=>Ke x0 aE)).bind fun aB=>some (.inl (aA + 1,aB.buf_,aB.err_)) else some (.inr (aC,aD)))
noncomputable def Kp (a0 : GPlan) : (Nat × List UInt8 × ErrM) → Option ((Nat × List UInt8 × ErrM) ⊕ (List UInt8 × ErrM)):=fun (aA,aB,aC)=>(bif decide (aA < a0.Procs.length) then (a0.Procs[aA]?).bind fun aE=>(Kn (⟨aB,aC⟩ : GWireWriter) 2 (fun x0=>Kd x0 aE)).bind fun aD=>some (.inl (aA + 1,aD.buf_,aD.err_)) else some (.inr (aB,aC)))
noncomputable def Kq (a0 : GPlan) : (Nat × List UInt8 × ErrM) → Option ((Nat × List UInt8 × ErrM) ⊕ (List UInt8 × ErrM)):=fun (aA,aB,aC)=>(bif decide (aA < a0.Pages.length) then (a0.Pages[aA]?).bind fun aE=>(Kn (⟨aB,aC⟩ : GWireWriter) 1 (fun x0=>Kc x0 aE)).bind fun aD=>some (.inl (aA + 1,aD.buf_,aD.err_)) else some (.inr (aB,aC)))
noncomputable def Wv (a0 : GPlan) : Option GWireWriter:=(Je).bind fun aC=>(Uj (Kq a0) (0,aC.buf_,aC.err_)).bind (fun (aD,aE)=>(Uj (Kp a0) (0,aD,aE)).bind (fun (aF,aG)=>(Uj (Ko a0) (0,aF,aG)).bind (fun (aH,aI)=>(Kn (⟨aH,aI⟩ : GWireWriter) 4 (fun x0=>Kf x0 a0)).bind fun aA=>(Kn (⟨aA.buf_,aA.err_⟩ : GWireWriter) 5 (fun x0=>Kg x0 a0)).bind fun aB=>some (⟨aB.buf_,aB.err_⟩ : GWireWriter))))
noncomputable def Vc (a0 : GWireWriter) (a1 : Int) : Option GWireWriter:=(Qj (⟨a0.buf_,a0.err_⟩ : GWireWriter) a1 2).bind fun aA=>some (⟨aA.buf_,aA.err_⟩ : GWireWriter)
noncomputable def Zah (a0 : Int) : Option Int:=(bif decide ((Zed .u32 a0 1)=1) then some (Yr .u32 (shR .u32 a0 1) 3988292384) else some (shR .u32 a0 1))
noncomputable def Yk : (Int × Nat) → Option ((Int × Nat) ⊕ Int):=fun (aA,aB)=>(bif decide (aB < 8) then (Zah aA).bind fun aC=>some (.inl (aC,aB + 1)) else some (.inr aA))
noncomputable def Yl : (Nat × Vector Int 256) → Option ((Nat × Vector Int 256) ⊕ (Vector Int 256)):=fun (aA,aB)=>(bif decide (aA < 256) then (Uj Yk ((IntKind.u32.wrap ((aA : Nat) : Int)),0)).bind (fun aC=>(rdV aB ((aA : Nat) : Int)).bind fun aD=>some (.inl (aA + 1,(aB.setIfInBounds (((aA : Nat) : Int).toNat) aC)))) else some (.inr aB))
noncomputable def Hx : Option (Vector Int 256):=(Uj Yl (0,#v[0,0,0,0,0,0,0,0,0,0,0,0,0,0,0,0,0,0,0,0,0,0,0,0,0,0,0,0,0,0,0,0,0,0,0,0,0,0,0,0,0,0,0,0,0,0,0,0,0,0,0,0,0,0,0,0,0,0,0,0,0,0,0,0,0,0,0,0,0,0,0,0,0,0,0,0,0,0,0,0,0,0,0,0,0,0,0,0,0,0,0,0,0,0,0,0,0,0,0,0,0,0,0,0,0,0,0,0,0,0,0,0,0,0,0,0,0,0,0,0,0,0,0,0,0,0,0,0,0,0,0,0,0,0,0,0,0,0,0,0,0,0,0,0,0,0,0,0,0,0,0,0,0,0,0,0,0,0,0,0,0,0,0,0,0,0,0,0,0,0,0,0,0,0,0,0,0,0,0,0,0,0,0,0,0,0,0,0,0,0,0,0,0,0,0,0,0,0,0,0,0,0,0,0,0,0,0,0,0,0,0,0,0,0,0,0,0,0,0,0,0,0,0,0,0,0,0,0,0,0,0,0,0,0,0,0,0,0,0,0,0,0,0,0,0,0,0,0,0,0,0,0,0,0,0,0])).bind (fun aA=>some aA)
noncomputable def Wj (a1 : List UInt8) (aC : Vector Int 256) : (Int × Nat) → Option ((Int × Nat) ⊕ Int):=fun (aA,aB)=>(bif decide (aB < a1.length) then (a1[aB]?).bind fun aD=>(rdV aC (Yr .u8 (IntKind.u8.wrap aA) (aD.toNat : Int))).bind fun aE=>some (.inl ((Yr .u32 aE (shR .u32 aA 8)),aB + 1)) else some (.inr aA))
noncomputable def Hl (a0 : Int) (a1 : List UInt8) : Option Int:=(bif decide (a1.length=0) then some a0 else (Hx).bind fun aA=>(Uj (Wj a1 aA) (a0,0)).bind (fun aB=>some aB))
noncomputable def Zbg (a0 : Int) (a1 : List UInt8) : Option Int:=(Hl (Zmh .u32 a0) a1).bind fun aA=>some (Zmh .u32 aA)
noncomputable def Zai (a0 : List UInt8) : Option Int:=(Zbg 0 a0).bind fun aA=>some aA
noncomputable def Vn (a0 : List UInt8) : Option (List UInt8):=chk ((([] : List UInt8).length + a0.length) * 1 ≤ 140737488355328) (some (([] : List UInt8) ++ a0))
noncomputable def Hm (a0 : Int) : Option (List UInt8):=some [(Qq a0),(Qq (shR .u32 a0 8)),(Qq (shR .u32 a0 16)),(Qq (shR .u32 a0 24))]
noncomputable def Zaj (a0 : List UInt8) : Option (List UInt8):=(Vn a0).bind fun aA=>(Zai a0).bind fun aC=>(Hm aC).bind fun aB=>chk ((aA.length + aB.length) * 1 ≤ 140737488355328) (some (aA ++ aB))
noncomputable def Ju (a0 : GPlan) : Option (List UInt8 × ErrM):=(Js a0).bind fun aL=>(bif (!decide (aL=.nil)) then some (([] : List UInt8),(.v Uz)) else (Wv a0).bind fun aE=>(Xz (⟨aE.buf_,aE.err_⟩ : GWireWriter)).bind fun aB=>(bif (!decide (aB.2.1=.nil)) then some (([] : List UInt8),aB.2.1) else (Je).bind fun aF=>(Jl (⟨aF.buf_,aF.err_⟩ : GWireWriter) [(Qq 70),(Qq 80),(Qq 76),(Qq 78)]).bind fun aG=>(Vc (⟨aG.buf_,aG.err_⟩ : GWireWriter) 1).bind fun aH=>(Jm (⟨aH.buf_,aH.err_⟩ : GWireWriter) (IntKind.i64.wrap ((IntKind.i64.wrap (15 + ((aB.1.length : Nat) : Int))) + 4))).bind fun aI=>(Jm (⟨aI.buf_,aI.err_⟩ : GWireWriter) a0.Id).bind fun aJ=>(Jz (⟨aJ.buf_,aJ.err_⟩ : GWireWriter) a0.Mobile).bind fun aC=>(Jl (⟨aC.buf_,aC.err_⟩ : GWireWriter) aB.1).bind fun aD=>(Xz (⟨aD.buf_,aD.err_⟩ : GWireWriter)).bind fun aA=>(bif (!decide (aA.2.1=.nil)) then some (([] : List UInt8),aA.2.1) else (Zaj aA.1).bind fun aK=>some (aK,.nil))))
noncomputable def Vz (a0 : List Int) : Option (List Int):=chk ((([] : List Int).length + a0.length) * 8 ≤ 140737488355328) (some (([] : List Int) ++ a0))
structure GProc where
  Regs : Vector Int 16
  Pc : Int
  State : Int
  Prio : Int
  Wait : Int
  Obj : Int
  deriving DecidableEq
def Gz (x : GProc) : List Value:=x.Regs.toList.map (Value.int .u32) ++ [.int .u32 x.Pc,.int .i64 x.State,.int .i64 x.Prio,.int .i64 x.Wait,.int .i64 x.Obj]
theorem Hn (x : GProc) : (Gz x).length=21:=by simp [Gz]
theorem Zfm (x : GProc) : ∀ u ∈ Gz x,u.oneCell' = true:=by
  intro u hu
  simp only [Gz,List.mem_append,List.mem_cons,List.mem_map,List.not_mem_nil,or_false] at hu
  rcases hu with (⟨_,_,rfl⟩) | (rfl|rfl|rfl|rfl|rfl) <;> rfl
structure GTimer where
  Proc : Int
  Due : Int
  deriving DecidableEq
def Zh4 (x : GTimer) : List Value:=[.int .i64 x.Proc,.int .i64 x.Due]
structure GPort where
  Msgs : List ByteArray
  Age : Int
  deriving DecidableEq
def Ys (w : World) (cs : List Value) (x : GPort) : Prop:=∃ v0,cs=[v0,.int .i64 x.Age] ∧ SlR w 1 (Zq eS) v0 x.Msgs
theorem Ys.mono : Zhy Ys:=by
  intro w w' cs x e h
  obtain⟨v0,rfl,h0⟩:=h
  exact⟨v0,rfl,h0.agr (Zq.mono _) e⟩
structure GPage where
  Rights : Int
  Dirty : Bool
  Data : Vector UInt8 64
  deriving DecidableEq
def Tp (x : GPage) : List Value:=[.int .i64 x.Rights,.bool x.Dirty] ++ x.Data.toList.map (fun b : UInt8=>Value.int .u8 (b.toNat : Int))
theorem Um (x : GPage) : (Tp x).length=66:=by simp [Tp]
theorem Zfn (x : GPage) : ∀ u ∈ Tp x,u.oneCell' = true:=by
  intro u hu
  simp only [Tp,List.mem_append,List.mem_cons,List.mem_map,List.not_mem_nil,or_false] at hu
  rcases hu with (rfl|rfl) | (⟨_,_,rfl⟩) <;> rfl
structure GState where
  Id : Int
  Frame : Int
  Epoch : Int
  Procs : List GProc
  Ready : List Int
  Timers : List GTimer
  Up : List Bool
  Sems : List Int
  Ports : List GPort
  Pages : List GPage
  deriving DecidableEq
def Zld (w : World) (cs : List Value) (x : GState) : Prop:=∃ v0 v1 v2 v3 v4 v5 v6,cs=[.int .i64 x.Id,.int .i64 x.Frame,.int .i64 x.Epoch,v0,v1,v2,v3,v4,v5,v6] ∧ SlR w 21 (Zq Gz) v0 x.Procs ∧ SlR w 1 (Zq eI) v1 x.Ready ∧ SlR w 2 (Zq Zh4) v2 x.Timers ∧ SlR w 1 (Zq eF) v3 x.Up ∧ SlR w 1 (Zq eI) v4 x.Sems ∧ SlR w 2 Ys v5 x.Ports ∧ SlR w 66 (Zq Tp) v6 x.Pages
theorem Zld.mono : Zhy Zld:=by
  intro w w' cs x e h
  obtain⟨v0,v1,v2,v3,v4,v5,v6,rfl,h0,h1,h2,h3,h4,h5,h6⟩:=h
  exact⟨v0,v1,v2,v3,v4,v5,v6,rfl,h0.agr (Zq.mono _) e,h1.agr (Zq.mono _) e,h2.agr (Zq.mono _) e,h3.agr (Zq.mono _) e,h4.agr (Zq.mono _) e,h5.agr Ys.mono e,h6.agr (Zq.mono _) e⟩
noncomputable def Gj (aD : Nat) (aB : List GProc) : (List Int × GProc) → Option ((Nat × List GProc × List Int) ⊕ (List GProc × List Int)):=fun (aC,aA)=>chk ((aB.length + [aA].length) * 104 ≤ 140737488355328) (some (.inl (aD + 1,(aB ++ [aA]),aC)))
noncomputable def Vs (a0 : GPlan) : (Nat × List GPage) → Option ((Nat × List GPage) ⊕ (List GPage)):=fun (aB,aC)=>(bif decide (aB < a0.Pages.length) then (a0.Pages[aB]?).bind fun aA=>chk ((aC.length + [(⟨aA.Rights,false,(Zmi (Vector.replicate 64 0) aA.Init)⟩ : GPage)].length) * 80 ≤ 140737488355328) (some (.inl (aB + 1,(aC ++ [(⟨aA.Rights,false,(Zmi (Vector.replicate 64 0) aA.Init)⟩ : GPage)])))) else some (.inr aC))
noncomputable def Vt (a0 : GPlan) : (Nat × List GProc × List Int) → Option ((Nat × List GProc × List Int) ⊕ (List GProc × List Int)):=fun (aA,aD,aC)=>(bif decide (aA < a0.Procs.length) then (a0.Procs[aA]?).bind fun aB=>(((bif aB.Auto then chk ((aC.length + [((aA : Nat) : Int)].length) * 8 ≤ 140737488355328) (some ((aC ++ [((aA : Nat) : Int)]),(⟨(Vector.replicate 16 0),(IntKind.u32.wrap aB.Entry),1,aB.Prio,0,0⟩ : GProc))) else some (aC,(⟨(Vector.replicate 16 0),(IntKind.u32.wrap aB.Entry),0,aB.Prio,0,0⟩ : GProc)))) : Option (List Int × GProc)).bind (fun p=>(Gj aA aD) p) else some (.inr (aD,aC)))
noncomputable def Gk (a0 : GPlan) : (List Bool × List Int × List GPort) → Option (GState × ErrM):=fun (aB,aC,aD)=>(Uj (Vt a0) (0,([] : List GProc),([] : List Int))).bind (fun (aE,aF)=>(Uj (Vs a0) (0,([] : List GPage))).bind (fun aA=>some ((⟨a0.Id,0,0,aE,aF,([] : List GTimer),aB,aC,aD,aA⟩ : GState),.nil)))
noncomputable def Hy (a0 : GPlan) : Option (GState × ErrM):=(Js a0).bind fun aB=>(bif (!decide (aB=.nil)) then some ((⟨0,0,0,([] : List GProc),([] : List Int),([] : List GTimer),([] : List Bool),([] : List Int),([] : List GPort),([] : List GPage)⟩ : GState),(.v Uz)) else ((chk (0 ≤ a0.Events) (chk (a0.Events.toNat * 1 ≤ 140737488355328) ((Vz a0.Sems).bind fun aA=>chk (a0.Ports.length * 32 ≤ 140737488355328) (some ((List.replicate a0.Events.toNat false),aA,(List.replicate a0.Ports.length (⟨([] : List ByteArray),0⟩ : GPort))))))) : Option (List Bool × List Int × List GPort)).bind (fun p=>(Gk a0) p))
noncomputable def Gr (a0 : GPlan) : Option (Int × ErrM):=(Js a0).bind fun aA=>(bif (!decide (aA=.nil)) then some (0,(.v Uz)) else (Ul a0).bind fun aB=>some (aB,.nil))
noncomputable def Ua (aA : GPlan) : Bool → Option Bool:=fun aD=>(bif aD then some false else (aA.Procs[1]?).bind fun aB=>(Js (⟨aA.Id,aA.Mobile,aA.Pages,(aA.Procs.set 1 (⟨66,aB.Prio,aB.Auto⟩ : GProcPlan)),aA.Ports,aA.Events,aA.Sems⟩ : GPlan)).bind fun aC=>(bif decide ((ErrM.code aC)=4) then some (decide ((ErrM.place aC)=1)) else some false))
noncomputable def Ub (aC : GPlan) : Bool → Option Bool:=fun aF=>(bif aF then some false else (Hy aC).bind fun aA=>(Ju aC).bind fun aB=>(((bif (!decide (aA.2=.nil)) then some true else (bif (!decide (aB.2=.nil)) then some true else (bif (!decide (aA.1.Procs.length=2)) then some true else (bif (!decide (aA.1.Ready.length=1)) then some true else (bif (!decide (aA.1.Pages.length=2)) then some true else (aA.1.Pages[0]?).bind fun aD=>(rdV aD.Data 1).bind fun aE=>(bif (!decide ((aE.toNat : Int)=98)) then some true else (bif (!decide (aB.1.length=69)) then some true else chk (0 ≤ (15 : Int) ∧ (15 : Int) ≤ aB.1.length) (some (!decide ((Zea (aB.1.take (15 : Int).toNat))=⟨#[70,80,76,78,0,1,0,0,0,69,0,0,0,3,1]⟩))))))))))) : Option Bool).bind (fun p=>(Ua aC) p))
noncomputable def Us : Option Bool:=(Wi).bind fun aA=>(Gr aA).bind fun aB=>(((Js aA).bind fun aC=>(bif (!decide (aC=.nil)) then some true else (bif (!decide (aB.2=.nil)) then some true else some (!decide (aB.1=363))))) : Option Bool).bind (fun p=>(Ub aA) p)
noncomputable def Ho (a0 : GPlan) : Option GPlan:=chk ((([] : List GPagePlan).length + a0.Pages.length) * 24 ≤ 140737488355328) (chk ((([] : List GProcPlan).length + a0.Procs.length) * 24 ≤ 140737488355328) (chk ((([] : List GPortPlan).length + a0.Ports.length) * 32 ≤ 140737488355328) (chk ((([] : List Int).length + a0.Sems.length) * 8 ≤ 140737488355328) (some (⟨a0.Id,a0.Mobile,(([] : List GPagePlan) ++ a0.Pages),(([] : List GProcPlan) ++ a0.Procs),(([] : List GPortPlan) ++ a0.Ports),a0.Events,(([] : List Int) ++ a0.Sems)⟩ : GPlan)))))
structure GR10Err where
  Code : Int
  Place : Int
  deriving DecidableEq
def He (x : GR10Err) : List Value:=[.int .i64 x.Code,.int .i64 x.Place]
noncomputable def Ye (a0 : Int) : Option GR10Err:=some (⟨a0,(-1)⟩ : GR10Err)
noncomputable def Yc : Option GR10Err:=some (⟨0,(-1)⟩ : GR10Err)
noncomputable def Ut (a0 : GPlan) (aA : Nat) : Bool → Option (Nat ⊕ (Unit ⊕ GR10Err)):=fun aB=>(bif aB then some (.inr (.inr (⟨4,((aA : Nat) : Int)⟩ : GR10Err))) else (a0.Pages[aA]?).bind fun aC=>(bif decide (64 < aC.Init.size) then some (.inr (.inr (⟨5,((aA : Nat) : Int)⟩ : GR10Err))) else some (.inl (aA + 1))))
noncomputable def Vd (a0 : GPlan) : Nat → Option (Nat ⊕ (Unit ⊕ GR10Err)):=fun aA=>(bif decide (aA < a0.Pages.length) then (((a0.Pages[aA]?).bind fun aB=>(bif decide (aB.Rights < 0) then some true else (a0.Pages[aA]?).bind fun aC=>some (decide (7 < aC.Rights)))) : Option Bool).bind (fun p=>(Ut a0 aA) p) else some (.inr (.inl ())))
noncomputable def Hz (a0 : GPlan) : Option GR10Err:=(bif (decide (a0.Pages.length < 1) || decide (32 < a0.Pages.length)) then (Ye 11).bind fun aB=>some aB else (Uj (Vd a0) 0).bind (fun q=>match q with | .inl _=>(Yc).bind fun aA=>some aA | .inr p=>some p))
noncomputable def Gl (aA : Nat) : Bool → Option (Nat ⊕ (Unit ⊕ GR10Err)):=fun aB=>(bif aB then some (.inr (.inr (⟨4,((aA : Nat) : Int)⟩ : GR10Err))) else some (.inl (aA + 1)))
noncomputable def Vu (a0 : GPlan) : Nat → Option (Nat ⊕ (Unit ⊕ GR10Err)):=fun aB=>(bif decide (aB < a0.Procs.length) then (a0.Procs[aB]?).bind fun aA=>(((bif decide (aA.Entry < 0) then some true else (bif (!decide ((Int.tmod aA.Entry 4)=0)) then some true else (bif decide ((IntKind.i64.wrap (64 * ((a0.Pages.length : Nat) : Int))) ≤ aA.Entry) then some true else (bif decide (aA.Prio < 0) then some true else some (decide (255 < aA.Prio))))))) : Option Bool).bind (fun p=>(Gl aB) p) else some (.inr (.inl ())))
noncomputable def Ta (a0 : GPlan) : Option GR10Err:=(bif (decide (a0.Procs.length < 1) || decide (8 < a0.Procs.length)) then (Ye 11).bind fun aB=>some aB else (Uj (Vu a0) 0).bind (fun q=>match q with | .inl _=>(Yc).bind fun aA=>some aA | .inr p=>some p))
noncomputable def Ve (a0 : GPortPlan) : Option Int:=(bif (decide (a0.Kind < 1) || decide (4 < a0.Kind)) then some 7 else (bif (decide (a0.Size < 1) || decide (32 < a0.Size)) then some 11 else (bif ((decide (a0.Depth < 1) || decide (8 < a0.Depth)) || ((!(decide (3 ≤ a0.Kind))) && (!decide (a0.Depth=1)))) then some 4 else (bif ((decide (a0.Refresh < 0) || decide (255 < a0.Refresh)) || ((!decide (a0.Kind=1)) && (!decide (a0.Refresh=0)))) then some 4 else some 0))))
noncomputable def Vv (a0 : GPlan) : Nat → Option (Nat ⊕ (Unit ⊕ GR10Err)):=fun aA=>(bif decide (aA < a0.Ports.length) then (a0.Ports[aA]?).bind fun aC=>(Ve aC).bind fun aB=>(bif (!decide (aB=0)) then some (.inr (.inr (⟨aB,((aA : Nat) : Int)⟩ : GR10Err))) else some (.inl (aA + 1))) else some (.inr (.inl ())))
noncomputable def Tb (a0 : GPlan) : Option GR10Err:=(bif decide (8 < a0.Ports.length) then (Ye 11).bind fun aA=>some aA else (Uj (Vv a0) 0).bind (fun q=>match q with | .inl _=>(Yc).bind fun aB=>some aB | .inr p=>some p))
noncomputable def Uu (aA : Nat) : Bool → Option (Nat ⊕ (Unit ⊕ GR10Err)):=fun aB=>(bif aB then some (.inr (.inr (⟨4,((aA : Nat) : Int)⟩ : GR10Err))) else some (.inl (aA + 1)))
noncomputable def Vf (a0 : GPlan) : Nat → Option (Nat ⊕ (Unit ⊕ GR10Err)):=fun aA=>(bif decide (aA < a0.Sems.length) then (((a0.Sems[aA]?).bind fun aB=>(bif decide (aB < 0) then some true else (a0.Sems[aA]?).bind fun aC=>some (decide (255 < aC)))) : Option Bool).bind (fun p=>(Uu aA) p) else some (.inr (.inl ())))
noncomputable def Gs (a0 : GPlan) : Option GR10Err:=(bif (decide (a0.Events < 0) || decide (8 < a0.Events)) then (Ye 4).bind fun aB=>some aB else (bif decide (8 < a0.Sems.length) then (Ye 11).bind fun aC=>some aC else (Uj (Vf a0) 0).bind (fun q=>match q with | .inl _=>(Yc).bind fun aA=>some aA | .inr p=>some p)))
noncomputable def Zak (a0 : GPortPlan) : Option (Int × Int):=(Ve a0).bind fun aA=>(bif (!decide (aA=0)) then some (0,8) else (bif decide (a0.Kind=1) then some ((IntKind.i64.wrap (3 + a0.Size)),0) else (bif decide (a0.Kind=3) then some ((IntKind.i64.wrap (2 + (IntKind.i64.wrap (a0.Depth * (IntKind.i64.wrap (1 + a0.Size)))))),0) else some (2,0))))
noncomputable def Vw (a0 : GPlan) : (Int × Nat) → Option ((Int × Nat) ⊕ Int):=fun (aB,aA)=>(bif decide (aA < a0.Ports.length) then (a0.Ports[aA]?).bind fun aC=>(Zak aC).bind fun aD=>some (.inl ((IntKind.i64.wrap (aB + (IntKind.i64.wrap (3 + aD.1)))),aA + 1)) else some (.inr aB))
noncomputable def Tc (a0 : GPlan) : Option Int:=(Uj (Vw a0) ((IntKind.i64.wrap ((IntKind.i64.wrap ((IntKind.i64.wrap ((IntKind.i64.wrap (58 + (IntKind.i64.wrap (76 * ((a0.Procs.length : Nat) : Int))))) + (IntKind.i64.wrap (68 * ((a0.Pages.length : Nat) : Int))))) + a0.Events)) + ((a0.Sems.length : Nat) : Int))),0)).bind (fun aA=>some aA)
noncomputable def Ym (aB : GR10Err) (aC : GR10Err) (aD : GR10Err) (aE : GR10Err) : Nat → Option (Nat ⊕ (Unit ⊕ GR10Err)):=fun aA=>(bif decide (aA < [aB,aC,aD,aE].length) then ([aB,aC,aD,aE][aA]?).bind fun aF=>(bif (!decide (aF.Code=0)) then ([aB,aC,aD,aE][aA]?).bind fun aG=>some (.inr (.inr aG)) else some (.inl (aA + 1))) else some (.inr (.inl ())))
noncomputable def Td (a0 : GPlan) : Option GR10Err:=(bif (decide (a0.Id < 0) || decide (2147483647 < a0.Id)) then (Ye 4).bind fun aA=>some aA else (Hz a0).bind fun aB=>(Ta a0).bind fun aC=>(Tb a0).bind fun aD=>(Gs a0).bind fun aE=>(Uj (Ym aB aC aD aE) 0).bind (fun q=>match q with | .inl _=>(Tc a0).bind fun aF=>(bif decide (4096 < aF) then (Ye 11).bind fun aG=>some aG else (Yc).bind fun aH=>some aH) | .inr p=>some p))
noncomputable def Zal (a0 : GPlan) : Option Bool:=(Td a0).bind fun aA=>some (decide (aA.Code=0))
noncomputable def Uv (a0 : List UInt8) (a1 : List UInt8) : Option Bool:=some (decide ((Zea a0)=(Zea a1)))
noncomputable def Gd (a0 : List UInt8) : Option (List UInt8 × ErrM):=(bif decide (a0.length < 4) then some (([] : List UInt8),(.v Kz)) else chk (0 ≤ (IntKind.i64.wrap (((a0.length : Nat) : Int) - 4)) ∧ (IntKind.i64.wrap (((a0.length : Nat) : Int) - 4)) ≤ a0.length) (chk (0 ≤ (((a0.take (IntKind.i64.wrap (((a0.length : Nat) : Int) - 4)).toNat).length : Nat) : Int) ∧ (((a0.take (IntKind.i64.wrap (((a0.length : Nat) : Int) - 4)).toNat).length : Nat) : Int) ≤ ((a0.length : Nat) : Int) ∧ ((a0.length : Nat) : Int) ≤ ((a0.length : Nat) : Int)) ((Zai (a0.take (IntKind.i64.wrap (((a0.length : Nat) : Int) - 4)).toNat)).bind fun aA=>(Hm aA).bind fun aB=>(Uv aB ((a0.drop (((a0.take (IntKind.i64.wrap (((a0.length : Nat) : Int) - 4)).toNat).length : Nat) : Int).toNat).take (((a0.length : Nat) : Int).toNat - (((a0.take (IntKind.i64.wrap (((a0.length : Nat) : Int) - 4)).toNat).length : Nat) : Int).toNat))).bind fun aC=>(bif (!aC) then some (([] : List UInt8),(.v gSum)) else (Vn (a0.take (IntKind.i64.wrap (((a0.length : Nat) : Int) - 4)).toNat)).bind fun aD=>some (aD,.nil)))))
structure GWireCursor where
  b_ : List UInt8
  at_ : Int
  bound_ : Int
  deriving DecidableEq
def Zdf (w : World) (cs : List Value) (x : GWireCursor) : Prop:=∃ v0,cs=[v0,.int .i64 x.at_,.int .i64 x.bound_] ∧ SlR w 1 (Zq eB) v0 x.b_
theorem Zdf.mono : Zhy Zdf:=by
  intro w w' cs x e h
  obtain⟨v0,rfl,h0⟩:=h
  exact⟨v0,rfl,h0.agr (Zq.mono _) e⟩
noncomputable def Te (a0 : List UInt8) : Option GWireCursor:=(Xb a0).bind fun aA=>some (⟨aA,0,((a0.length : Nat) : Int)⟩ : GWireCursor)
noncomputable def Qn (a0 : GWireCursor) : Option (Int × GWireCursor):=some ((IntKind.i64.wrap (a0.bound_ - a0.at_)),(⟨a0.b_,a0.at_,a0.bound_⟩ : GWireCursor))
noncomputable def Xf (a0 : GWireCursor) (a1 : Int) : Option (List UInt8 × ErrM × GWireCursor):=(bif decide (a1 < 0) then some (([] : List UInt8),(.v gArg),(⟨a0.b_,a0.at_,a0.bound_⟩ : GWireCursor)) else (Qn (⟨a0.b_,a0.at_,a0.bound_⟩ : GWireCursor)).bind fun aA=>(bif decide (aA.1 < a1) then (Jt aA.2.at_ (.v Kz)).bind fun aB=>some (([] : List UInt8),aB,(⟨a0.b_,aA.2.at_,aA.2.bound_⟩ : GWireCursor)) else chk (0 ≤ aA.2.at_ ∧ aA.2.at_ ≤ (IntKind.i64.wrap (aA.2.at_ + a1)) ∧ (IntKind.i64.wrap (aA.2.at_ + a1)) ≤ ((a0.b_.length : Nat) : Int)) ((Xb ((a0.b_.drop aA.2.at_.toNat).take ((IntKind.i64.wrap (aA.2.at_ + a1)).toNat - aA.2.at_.toNat))).bind fun aC=>some (aC,.nil,(⟨a0.b_,(IntKind.i64.wrap (aA.2.at_ + a1)),aA.2.bound_⟩ : GWireCursor)))))
noncomputable def Qy (a0 : GWireCursor) (a1 : Int) (a2 : Int) : (Int × Nat) → Option ((Int × Nat) ⊕ Int):=fun (aB,aA)=>(bif decide (aA < ((a0.b_.drop (IntKind.i64.wrap (a0.at_ + a1)).toNat).take ((IntKind.i64.wrap ((IntKind.i64.wrap (a0.at_ + a1)) + a2)).toNat - (IntKind.i64.wrap (a0.at_ + a1)).toNat)).length) then (((a0.b_.drop (IntKind.i64.wrap (a0.at_ + a1)).toNat).take ((IntKind.i64.wrap ((IntKind.i64.wrap (a0.at_ + a1)) + a2)).toNat - (IntKind.i64.wrap (a0.at_ + a1)).toNat))[aA]?).bind fun aC=>some (.inl ((Zju .i64 (shL .i64 aB 8) (aC.toNat : Int)),aA + 1)) else some (.inr aB))
noncomputable def Qx (a0 : GWireCursor) (a1 : Int) (a2 : Int) : Option (Int × GWireCursor):=chk (0 ≤ (IntKind.i64.wrap (a0.at_ + a1)) ∧ (IntKind.i64.wrap (a0.at_ + a1)) ≤ (IntKind.i64.wrap ((IntKind.i64.wrap (a0.at_ + a1)) + a2)) ∧ (IntKind.i64.wrap ((IntKind.i64.wrap (a0.at_ + a1)) + a2)) ≤ ((a0.b_.length : Nat) : Int)) ((Uj (Qy a0 a1 a2) (0,0)).bind (fun aA=>some (aA,(⟨a0.b_,a0.at_,a0.bound_⟩ : GWireCursor))))
noncomputable def Qa (a0 : GWireCursor) (a1 : Int) (a2 : Int) (a3 : Int) : Option (Int × ErrM × GWireCursor):=(bif (((!decide (a1=1)) && (!decide (a1=2))) && (!decide (a1=4))) then some (0,(.v gArg),(⟨a0.b_,a0.at_,a0.bound_⟩ : GWireCursor)) else (Qn (⟨a0.b_,a0.at_,a0.bound_⟩ : GWireCursor)).bind fun aB=>(bif decide (aB.1 < a1) then (Jt aB.2.at_ (.v Kz)).bind fun aC=>some (0,aC,(⟨a0.b_,aB.2.at_,aB.2.bound_⟩ : GWireCursor)) else (Qx (⟨a0.b_,aB.2.at_,aB.2.bound_⟩ : GWireCursor) 0 a1).bind fun aA=>(bif (decide (aA.1 < a2) || decide (a3 < aA.1)) then (Jt aA.2.at_ (.v Jf)).bind fun aD=>some (0,aD,(⟨a0.b_,aA.2.at_,aA.2.bound_⟩ : GWireCursor)) else some (aA.1,.nil,(⟨a0.b_,(IntKind.i64.wrap (aA.2.at_ + a1)),aA.2.bound_⟩ : GWireCursor)))))
noncomputable def Jo (a0 : GWireCursor) : Option (Int × ErrM × GWireCursor):=(Jk 4).bind fun aB=>(Qa (⟨a0.b_,a0.at_,a0.bound_⟩ : GWireCursor) 4 0 aB).bind fun aA=>some (aA.1,aA.2.1,(⟨a0.b_,aA.2.2.at_,aA.2.2.bound_⟩ : GWireCursor))
noncomputable def Ka (a0 : GWireCursor) : Option (Bool × ErrM × GWireCursor):=(Qa (⟨a0.b_,a0.at_,a0.bound_⟩ : GWireCursor) 1 0 1).bind fun aA=>some (decide (aA.1=1),aA.2.1,(⟨a0.b_,aA.2.2.at_,aA.2.2.bound_⟩ : GWireCursor))
noncomputable def Kb (a0 : GWireCursor) : Option (Int × Int × ErrM × GWireCursor):=(Qn (⟨a0.b_,a0.at_,a0.bound_⟩ : GWireCursor)).bind fun aA=>(bif decide (aA.1 < 3) then (Jt aA.2.at_ (.v Kz)).bind fun aD=>some (0,0,aD,(⟨a0.b_,aA.2.at_,aA.2.bound_⟩ : GWireCursor)) else (Qx (⟨a0.b_,aA.2.at_,aA.2.bound_⟩ : GWireCursor) 0 1).bind fun aB=>(Qx (⟨a0.b_,aB.2.at_,aB.2.bound_⟩ : GWireCursor) 1 2).bind fun aC=>some (aB.1,aC.1,.nil,(⟨a0.b_,aC.2.at_,aC.2.bound_⟩ : GWireCursor)))
noncomputable def Jp (a0 : GWireCursor) (a1 : Int) : Option (Option GWireCursor × ErrM × GWireCursor):=(Qn (⟨a0.b_,a0.at_,a0.bound_⟩ : GWireCursor)).bind fun aA=>(bif decide ((IntKind.i64.wrap (aA.1 - 3)) < a1) then (Jt (IntKind.i64.wrap (aA.2.at_ + 1)) (.v Yy)).bind fun aB=>some (none,aB,(⟨a0.b_,aA.2.at_,aA.2.bound_⟩ : GWireCursor)) else some (some (⟨a0.b_,(IntKind.i64.wrap (aA.2.at_ + 3)),(IntKind.i64.wrap ((IntKind.i64.wrap (aA.2.at_ + 3)) + a1))⟩ : GWireCursor),.nil,(⟨a0.b_,(IntKind.i64.wrap ((IntKind.i64.wrap (aA.2.at_ + 3)) + a1)),aA.2.bound_⟩ : GWireCursor)))
noncomputable def Xr (a0 : GWireCursor) : Option (Int × Option GWireCursor × ErrM × GWireCursor):=(Kb (⟨a0.b_,a0.at_,a0.bound_⟩ : GWireCursor)).bind fun aA=>(bif (!decide (aA.2.2.1=.nil)) then some (0,none,aA.2.2.1,(⟨a0.b_,aA.2.2.2.at_,aA.2.2.2.bound_⟩ : GWireCursor)) else (bif decide (aA.1=0) then (Jt aA.2.2.2.at_ (.v Zjy)).bind fun aC=>some (0,none,aC,(⟨a0.b_,aA.2.2.2.at_,aA.2.2.2.bound_⟩ : GWireCursor)) else (Jp (⟨a0.b_,aA.2.2.2.at_,aA.2.2.2.bound_⟩ : GWireCursor) aA.2.1).bind fun aB=>(bif (!decide (aB.2.1=.nil)) then some (0,none,aB.2.1,(⟨a0.b_,aB.2.2.at_,aB.2.2.bound_⟩ : GWireCursor)) else some (aA.1,aB.1,.nil,(⟨a0.b_,aB.2.2.at_,aB.2.2.bound_⟩ : GWireCursor)))))
noncomputable def Xd (a0 : GWireCursor) : Option (Int × ErrM × GWireCursor):=(Jk 1).bind fun aB=>(Qa (⟨a0.b_,a0.at_,a0.bound_⟩ : GWireCursor) 1 0 aB).bind fun aA=>some (aA.1,aA.2.1,(⟨a0.b_,aA.2.2.at_,aA.2.2.bound_⟩ : GWireCursor))
noncomputable def Ge (a0 : GWireCursor) : Option (GPagePlan × ErrM × GWireCursor):=(Xd (⟨a0.b_,a0.at_,a0.bound_⟩ : GWireCursor)).bind fun aA=>(bif (!decide (aA.2.1=.nil)) then some ((⟨0,⟨#[]⟩⟩ : GPagePlan),aA.2.1,(⟨a0.b_,aA.2.2.at_,aA.2.2.bound_⟩ : GWireCursor)) else (Qn (⟨a0.b_,aA.2.2.at_,aA.2.2.bound_⟩ : GWireCursor)).bind fun aC=>(Xf (⟨a0.b_,aC.2.at_,aC.2.bound_⟩ : GWireCursor) aC.1).bind fun aB=>some ((⟨aA.1,(Zea aB.1)⟩ : GPagePlan),aB.2.1,(⟨a0.b_,aB.2.2.at_,aB.2.2.bound_⟩ : GWireCursor)))
noncomputable def Xu (a0 : List (Value × ErrM)) : Nat → Option (Nat ⊕ (Unit ⊕ (Value × ErrM))):=fun aA=>(bif decide (aA < a0.length) then (a0[aA]?).bind fun aB=>(bif (!decide (aB.2=.nil)) then some (.inr (.inr (aB.1,aB.2))) else some (.inl (aA + 1))) else some (.inr (.inl ())))
noncomputable def Za5 (a0 : List (Value × ErrM)) : Option (Value × ErrM):=(Uj (Xu a0) 0).bind (fun q=>match q with | .inl _=>some (.nilIface,.nil) | .inr p=>some p)
noncomputable def Xx (a0 : GWireCursor) : Option (ErrM × GWireCursor):=(Qn (⟨a0.b_,a0.at_,a0.bound_⟩ : GWireCursor)).bind fun aA=>(bif decide (0 < aA.1) then (Jt aA.2.at_ (.v Zjx)).bind fun aB=>some (aB,(⟨a0.b_,aA.2.at_,aA.2.bound_⟩ : GWireCursor)) else some (.nil,(⟨a0.b_,aA.2.at_,aA.2.bound_⟩ : GWireCursor)))
noncomputable def Tf (a0 : GWireCursor) : Option (GProcPlan × ErrM × GWireCursor):=(Jo (⟨a0.b_,a0.at_,a0.bound_⟩ : GWireCursor)).bind fun aA=>(Xd (⟨a0.b_,aA.2.2.at_,aA.2.2.bound_⟩ : GWireCursor)).bind fun aB=>(Ka (⟨a0.b_,aB.2.2.at_,aB.2.2.bound_⟩ : GWireCursor)).bind fun aC=>(Xx (⟨a0.b_,aC.2.2.at_,aC.2.2.bound_⟩ : GWireCursor)).bind fun aD=>some ((⟨aA.1,aB.1,aC.1⟩ : GProcPlan),(Zdm [aA.2.1,aB.2.1,aC.2.1,aD.1]),(⟨a0.b_,aD.2.at_,aD.2.bound_⟩ : GWireCursor))
noncomputable def Uw (a0 : GWireCursor) : Option (GPortPlan × ErrM × GWireCursor):=(Xd (⟨a0.b_,a0.at_,a0.bound_⟩ : GWireCursor)).bind fun aA=>(Xd (⟨a0.b_,aA.2.2.at_,aA.2.2.bound_⟩ : GWireCursor)).bind fun aB=>(Xd (⟨a0.b_,aB.2.2.at_,aB.2.2.bound_⟩ : GWireCursor)).bind fun aC=>(Xd (⟨a0.b_,aC.2.2.at_,aC.2.2.bound_⟩ : GWireCursor)).bind fun aD=>(Xx (⟨a0.b_,aD.2.2.at_,aD.2.2.bound_⟩ : GWireCursor)).bind fun aE=>some ((⟨aA.1,aB.1,aC.1,aD.1⟩ : GPortPlan),(Zdm [aA.2.1,aB.2.1,aC.2.1,aD.2.1,aE.1]),(⟨a0.b_,aE.2.at_,aE.2.bound_⟩ : GWireCursor))
noncomputable def Vo (aC : List UInt8 × ErrM × GWireCursor) : (Nat × List Int) → Option ((Nat × List Int) ⊕ (List Int)):=fun (aA,aB)=>(bif decide (aA < aC.1.length) then (aC.1[aA]?).bind fun aD=>chk ((aB.length + [(aD.toNat : Int)].length) * 8 ≤ 140737488355328) (some (.inl (aA + 1,(aB ++ [(aD.toNat : Int)])))) else some (.inr aB))
noncomputable def Vg (a0 : GPlan) (a1 : Int) (a2 : GWireCursor) : Option (ErrM × GPlan × GWireCursor):=(bif decide (a1=1) then (Ge (⟨a2.b_,a2.at_,a2.bound_⟩ : GWireCursor)).bind fun aC=>chk ((a0.Pages.length + [aC.1].length) * 24 ≤ 140737488355328) (some (aC.2.1,(⟨a0.Id,a0.Mobile,(a0.Pages ++ [aC.1]),a0.Procs,a0.Ports,a0.Events,a0.Sems⟩ : GPlan),(⟨a2.b_,aC.2.2.at_,aC.2.2.bound_⟩ : GWireCursor))) else (bif decide (a1=2) then (Tf (⟨a2.b_,a2.at_,a2.bound_⟩ : GWireCursor)).bind fun aD=>chk ((a0.Procs.length + [aD.1].length) * 24 ≤ 140737488355328) (some (aD.2.1,(⟨a0.Id,a0.Mobile,a0.Pages,(a0.Procs ++ [aD.1]),a0.Ports,a0.Events,a0.Sems⟩ : GPlan),(⟨a2.b_,aD.2.2.at_,aD.2.2.bound_⟩ : GWireCursor))) else (bif decide (a1=3) then (Uw (⟨a2.b_,a2.at_,a2.bound_⟩ : GWireCursor)).bind fun aE=>chk ((a0.Ports.length + [aE.1].length) * 32 ≤ 140737488355328) (some (aE.2.1,(⟨a0.Id,a0.Mobile,a0.Pages,a0.Procs,(a0.Ports ++ [aE.1]),a0.Events,a0.Sems⟩ : GPlan),(⟨a2.b_,aE.2.2.at_,aE.2.2.bound_⟩ : GWireCursor))) else (bif decide (a1=4) then (Xd (⟨a2.b_,a2.at_,a2.bound_⟩ : GWireCursor)).bind fun aA=>(Xx (⟨a2.b_,aA.2.2.at_,aA.2.2.bound_⟩ : GWireCursor)).bind fun aF=>some ((Zdm [aA.2.1,aF.1]),(⟨a0.Id,a0.Mobile,a0.Pages,a0.Procs,a0.Ports,aA.1,a0.Sems⟩ : GPlan),(⟨a2.b_,aF.2.at_,aF.2.bound_⟩ : GWireCursor)) else (bif decide (a1=5) then (Qn (⟨a2.b_,a2.at_,a2.bound_⟩ : GWireCursor)).bind fun aG=>(Xf (⟨a2.b_,aG.2.at_,aG.2.bound_⟩ : GWireCursor) aG.1).bind fun aB=>(Uj (Vo aB) (0,a0.Sems)).bind (fun aH=>some (aB.2.1,(⟨a0.Id,a0.Mobile,a0.Pages,a0.Procs,a0.Ports,a0.Events,aH⟩ : GPlan),(⟨a2.b_,aB.2.2.at_,aB.2.2.bound_⟩ : GWireCursor))) else some ((.v Zjy),(⟨a0.Id,a0.Mobile,a0.Pages,a0.Procs,a0.Ports,a0.Events,a0.Sems⟩ : GPlan),(⟨a2.b_,a2.at_,a2.bound_⟩ : GWireCursor)))))))
noncomputable def Xt (a0 : List UInt8) (a1 : List UInt8) : Nat → Option (Nat ⊕ (Unit ⊕ Bool)):=fun aA=>(bif decide (aA < a0.length) then (a0[aA]?).bind fun aB=>(a1[aA]?).bind fun aC=>(bif (!decide ((aB.toNat : Int)=(aC.toNat : Int))) then some (.inr (.inr false)) else some (.inl (aA + 1))) else some (.inr (.inl ())))
noncomputable def Xv (a0 : List UInt8) (a1 : List UInt8) : Option Bool:=(bif (!decide (a0.length=a1.length)) then some false else (Uj (Xt a0 a1) 0).bind (fun q=>match q with | .inl _=>some true | .inr p=>some p))
noncomputable def Yn (aB : Int) (aC : Bool) (aD : List GPagePlan) (aE : List GProcPlan) (aF : List GPortPlan) (aG : Int) (aH : List Int) : Bool → Option (GPlan × ErrM):=fun aA=>(bif aA then some ((⟨0,false,([] : List GPagePlan),([] : List GProcPlan),([] : List GPortPlan),0,([] : List Int)⟩ : GPlan),(.v Uz)) else some ((⟨aB,aC,aD,aE,aF,aG,aH⟩ : GPlan),.nil))
noncomputable def Yo (aK : GWireCursor) (aL : ErrM) (aC : Int) (aD : Bool) (aE : List GPagePlan) (aF : List GProcPlan) (aG : List GPortPlan) (aH : Int) (aI : List Int) : (Bool × Int × Int) → Option ((ErrM × Int × Int × Int × Bool × List GPagePlan × List GProcPlan × List GPortPlan × Int × List Int) ⊕ (ErrM × Int × Bool × List GPagePlan × List GProcPlan × List GPortPlan × Int × List Int)):=fun (aM,aN,aO)=>(bif aM then (Xr (⟨aK.b_,aN,aO⟩ : GWireCursor)).bind fun aA=>(bif decide (aA.2.2.1=.nil) then (aA.2.1).bind fun aJ=>(Vg (⟨aC,aD,aE,aF,aG,aH,aI⟩ : GPlan) aA.1 (⟨aK.b_,aJ.at_,aJ.bound_⟩ : GWireCursor)).bind fun aB=>some (.inl (aB.1,aA.2.2.2.at_,aA.2.2.2.bound_,aB.2.1.Id,aB.2.1.Mobile,aB.2.1.Pages,aB.2.1.Procs,aB.2.1.Ports,aB.2.1.Events,aB.2.1.Sems)) else some (.inl (aA.2.2.1,aA.2.2.2.at_,aA.2.2.2.bound_,aC,aD,aE,aF,aG,aH,aI))) else some (.inr (aL,aC,aD,aE,aF,aG,aH,aI)))
noncomputable def Qr (aE : GWireCursor) : (ErrM × Int × Int × Int × Bool × List GPagePlan × List GProcPlan × List GPortPlan × Int × List Int) → Option ((ErrM × Int × Int × Int × Bool × List GPagePlan × List GProcPlan × List GPortPlan × Int × List Int) ⊕ (ErrM × Int × Bool × List GPagePlan × List GProcPlan × List GPortPlan × Int × List Int)):=fun (aB,aC,aD,aF,aG,aH,aI,aJ,aK,aL)=>(((bif decide (aB=.nil) then (Qn (⟨aE.b_,aC,aD⟩ : GWireCursor)).bind fun aA=>some (decide (0 < aA.1),aA.2.at_,aA.2.bound_) else some (false,aC,aD))) : Option (Bool × Int × Int)).bind (fun p=>(Yo aE aB aF aG aH aI aJ aK aL) p)
noncomputable def Qv (a0 : List UInt8) : Option (GPlan × ErrM):=(Gd a0).bind fun aB=>(bif (!decide (aB.2=.nil)) then some ((⟨0,false,([] : List GPagePlan),([] : List GProcPlan),([] : List GPortPlan),0,([] : List Int)⟩ : GPlan),aB.2) else (bif decide (aB.1.length < 15) then some ((⟨0,false,([] : List GPagePlan),([] : List GProcPlan),([] : List GPortPlan),0,([] : List Int)⟩ : GPlan),(.v Kz)) else chk (0 ≤ (6 : Int) ∧ (6 : Int) ≤ aB.1.length) ((bif (!decide ((Zea (aB.1.take (6 : Int).toNat))=⟨#[70,80,76,78,0,1]⟩)) then some ((⟨0,false,([] : List GPagePlan),([] : List GProcPlan),([] : List GPortPlan),0,([] : List Int)⟩ : GPlan),(.v Zf4)) else (Te aB.1).bind fun aA=>(Xf (⟨aA.b_,aA.at_,aA.bound_⟩ : GWireCursor) 6).bind fun aO=>(Jo (⟨aA.b_,aO.2.2.at_,aO.2.2.bound_⟩ : GWireCursor)).bind fun aE=>(bif (!decide (aE.1=((a0.length : Nat) : Int))) then some ((⟨0,false,([] : List GPagePlan),([] : List GProcPlan),([] : List GPortPlan),0,([] : List Int)⟩ : GPlan),(.v Yy)) else (Jo (⟨aA.b_,aE.2.2.at_,aE.2.2.bound_⟩ : GWireCursor)).bind fun aD=>(Ka (⟨aA.b_,aD.2.2.at_,aD.2.2.bound_⟩ : GWireCursor)).bind fun aC=>(Uj (Qr aA) (aC.2.1,aC.2.2.at_,aC.2.2.bound_,aD.1,aC.1,([] : List GPagePlan),([] : List GProcPlan),([] : List GPortPlan),0,([] : List Int))).bind (fun (aP,aF,aG,aH,aI,aJ,aK,aL)=>(bif (!decide (aP=.nil)) then some ((⟨0,false,([] : List GPagePlan),([] : List GProcPlan),([] : List GPortPlan),0,([] : List Int)⟩ : GPlan),(.v Uz)) else (Ju (⟨aF,aG,aH,aI,aJ,aK,aL⟩ : GPlan)).bind fun aM=>(((bif (!decide (aM.2=.nil)) then some true else (Xv aM.1 a0).bind fun aN=>some (!aN))) : Option Bool).bind (fun p=>(Yn aF aG aH aI aJ aK aL) p))))))))
structure GL10Case where
  P : GPlan
  Q : GPlan
  B : List UInt8
  At : Int
  Mask : Int
  deriving DecidableEq
def Zci (w : World) (cs : List Value) (x : GL10Case) : Prop:=∃ v0 v1 v2 v3 v4 v5 v6 v7 v8,cs=[.int .i64 x.P.Id,.bool x.P.Mobile,v0,v1,v2,.int .i64 x.P.Events,v3,.int .i64 x.Q.Id,.bool x.Q.Mobile,v4,v5,v6,.int .i64 x.Q.Events,v7,v8,.int .i64 x.At,.int .u32 x.Mask] ∧ SlR w 2 (Zq Qg) v0 x.P.Pages ∧ SlR w 3 (Zq Qe) v1 x.P.Procs ∧ SlR w 4 (Zq Zw) v2 x.P.Ports ∧ SlR w 1 (Zq eI) v3 x.P.Sems ∧ SlR w 2 (Zq Qg) v4 x.Q.Pages ∧ SlR w 3 (Zq Qe) v5 x.Q.Procs ∧ SlR w 4 (Zq Zw) v6 x.Q.Ports ∧ SlR w 1 (Zq eI) v7 x.Q.Sems ∧ SlR w 1 (Zq eB) v8 x.B
theorem Zci.mono : Zhy Zci:=by
  intro w w' cs x e h
  obtain⟨v0,v1,v2,v3,v4,v5,v6,v7,v8,rfl,h0,h1,h2,h3,h4,h5,h6,h7,h8⟩:=h
  exact⟨v0,v1,v2,v3,v4,v5,v6,v7,v8,rfl,h0.agr (Zq.mono _) e,h1.agr (Zq.mono _) e,h2.agr (Zq.mono _) e,h3.agr (Zq.mono _) e,h4.agr (Zq.mono _) e,h5.agr (Zq.mono _) e,h6.agr (Zq.mono _) e,h7.agr (Zq.mono _) e,h8.agr (Zq.mono _) e⟩
noncomputable def Vh (aC : Nat) : (List UInt8 × Bool) → Option ((List UInt8 × Bool × Nat) ⊕ (List UInt8 × Bool)):=fun (aA,aB)=>some (.inl (aA,aB,aC + 1))
noncomputable def Jq (a0 : List UInt8) (a1 : Int) (a2 : Int) : (List UInt8 × Bool × Nat) → Option ((List UInt8 × Bool × Nat) ⊕ (List UInt8 × Bool)):=fun (aB,aC,aA)=>(bif decide (aA < 32) then (((bif (decide ((Zed .u32 (shR .u32 a2 ((aA : Nat) : Int)) 1)=1) && decide ((IntKind.i64.wrap (a1 + ((aA : Nat) : Int))) < (IntKind.i64.wrap (8 * ((a0.length : Nat) : Int))))) then (rdI aB (IntKind.i64.wrap (Int.tdiv (IntKind.i64.wrap (a1 + ((aA : Nat) : Int))) 8))).bind fun aD=>chk (0 ≤ (Int.tmod (IntKind.i64.wrap (a1 + ((aA : Nat) : Int))) 8)) ((rdI aB (IntKind.i64.wrap (Int.tdiv (IntKind.i64.wrap (a1 + ((aA : Nat) : Int))) 8))).bind fun aE=>some ((aB.set ((IntKind.i64.wrap (Int.tdiv (IntKind.i64.wrap (a1 + ((aA : Nat) : Int))) 8)).toNat) (Qq (Yr .u8 (aD.toNat : Int) (shL .u8 1 (Int.tmod (IntKind.i64.wrap (a1 + ((aA : Nat) : Int))) 8))))),true)) else some (aB,aC))) : Option (List UInt8 × Bool)).bind (fun p=>(Vh aA) p) else some (.inr (aB,aC)))
noncomputable def Yp (a0 : List UInt8) (a1 : Int) (a2 : Int) : Option (List UInt8 × Bool):=chk ((([] : List UInt8).length + a0.length) * 1 ≤ 140737488355328) ((Uj (Jq a0 a1 a2) ((([] : List UInt8) ++ a0),false,0)).bind (fun (aA,aB)=>some (aA,aB)))
noncomputable def Jv (aA : Nat) : Unit → Option (Nat ⊕ (Unit ⊕ Bool)):=fun _=>some (.inl (aA + 1))
noncomputable def Qz (aB : List UInt8 × ErrM) : Int → Option (Int ⊕ (Unit ⊕ Bool)):=fun aA=>(bif decide (aA < ((aB.1.length : Nat) : Int)) then chk (0 ≤ aA ∧ aA ≤ aB.1.length) ((Qv (aB.1.take aA.toNat)).bind fun aC=>(bif decide (aC.2=.nil) then some (.inr (.inr false)) else some (.inl (IntKind.i64.wrap (aA + (IntKind.i64.wrap (1 + (IntKind.i64.wrap (Int.tdiv ((aB.1.length : Nat) : Int) 200))))))))) else some (.inr (.inl ())))
noncomputable def Qs (a0 : GL10Case) (aA : List UInt8 × ErrM) : Nat → Option (Nat ⊕ (Unit ⊕ Bool)):=fun aB=>(bif decide (aB < 8) then ((chk ((IntKind.i64.wrap (8 * ((aA.1.length : Nat) : Int))) ≠ 0) ((Yp aA.1 (Int.tmod (IntKind.i64.wrap ((IntKind.i64.wrap (Int.tmod (IntKind.u64.wrap a0.At) (IntKind.u64.wrap (IntKind.i64.wrap (8 * ((aA.1.length : Nat) : Int)))))) + (IntKind.i64.wrap (((aB : Nat) : Int) * 131)))) (IntKind.i64.wrap (8 * ((aA.1.length : Nat) : Int)))) (Zju .u32 a0.Mask 1)).bind fun aC=>(bif aC.2 then (Qv aC.1).bind fun aD=>(bif decide (aD.2=.nil) then some (.inr false) else some (.inl ())) else some (.inl ())))) : Option (Unit ⊕ Bool)).bind (fun q=>match q with | .inl p=>(Jv aB) p | .inr p=>some (.inr (.inr p))) else some (.inr (.inl ())))
noncomputable def Wc (aA : Nat) : Unit → Option (Nat ⊕ (Unit ⊕ Bool)):=fun _=>some (.inl (aA + 1))
noncomputable def Yf (aB : List UInt8 × ErrM) : Int → Option (Int ⊕ (Unit ⊕ Bool)):=fun aA=>(bif decide (aA < ((aB.1.length : Nat) : Int)) then chk (0 ≤ aA ∧ aA ≤ aB.1.length) ((Qv (aB.1.take aA.toNat)).bind fun aC=>(bif decide (aC.2=.nil) then some (.inr (.inr false)) else some (.inl (IntKind.i64.wrap (aA + (IntKind.i64.wrap (1 + (IntKind.i64.wrap (Int.tdiv ((aB.1.length : Nat) : Int) 200))))))))) else some (.inr (.inl ())))
noncomputable def Ky (a0 : GL10Case) (aA : List UInt8 × ErrM) : Nat → Option (Nat ⊕ (Unit ⊕ Bool)):=fun aB=>(bif decide (aB < 8) then ((chk ((IntKind.i64.wrap (8 * ((aA.1.length : Nat) : Int))) ≠ 0) ((Yp aA.1 (Int.tmod (IntKind.i64.wrap ((IntKind.i64.wrap (Int.tmod (IntKind.u64.wrap a0.At) (IntKind.u64.wrap (IntKind.i64.wrap (8 * ((aA.1.length : Nat) : Int)))))) + (IntKind.i64.wrap (((aB : Nat) : Int) * 131)))) (IntKind.i64.wrap (8 * ((aA.1.length : Nat) : Int)))) (Zju .u32 a0.Mask 1)).bind fun aC=>(bif aC.2 then (Qv aC.1).bind fun aD=>(bif decide (aD.2=.nil) then some (.inr false) else some (.inl ())) else some (.inl ())))) : Option (Unit ⊕ Bool)).bind (fun q=>match q with | .inl p=>(Wc aB) p | .inr p=>some (.inr (.inr p))) else some (.inr (.inl ())))
noncomputable def Yg (a0 : GL10Case) : Option Bool:=(Us).bind fun aF=>(bif (!aF) then some false else (Zal a0.P).bind fun aG=>(bif (!aG) then (Wi).bind fun aH=>(Ho aH).bind fun aI=>(Ju aI).bind fun aB=>(bif ((!decide (aB.2=.nil)) || decide (aB.1.length=0)) then some false else chk ((IntKind.u64.wrap (IntKind.i64.wrap (8 * ((aB.1.length : Nat) : Int)))) ≠ 0) ((Uj (Qs a0 aB) 0).bind (fun q=>match q with | .inl _=>(Uj (Qz aB) 0).bind (fun q=>match q with | .inl _=>chk ((([] : List UInt8).length + aB.1.length) * 1 ≤ 140737488355328) (chk (((([] : List UInt8) ++ aB.1).length + [(Qq 0)].length) * 1 ≤ 140737488355328) ((Qv ((([] : List UInt8) ++ aB.1) ++ [(Qq 0)])).bind fun aD=>some (!decide (aD.2=.nil)))) | .inr p=>some p) | .inr p=>some p))) else (Ho a0.P).bind fun aE=>(Ju aE).bind fun aA=>(bif ((!decide (aA.2=.nil)) || decide (aA.1.length=0)) then some false else chk ((IntKind.u64.wrap (IntKind.i64.wrap (8 * ((aA.1.length : Nat) : Int)))) ≠ 0) ((Uj (Ky a0 aA) 0).bind (fun q=>match q with | .inl _=>(Uj (Yf aA) 0).bind (fun q=>match q with | .inl _=>chk ((([] : List UInt8).length + aA.1.length) * 1 ≤ 140737488355328) (chk (((([] : List UInt8) ++ aA.1).length + [(Qq 0)].length) * 1 ≤ 140737488355328) ((Qv ((([] : List UInt8) ++ aA.1) ++ [(Qq 0)])).bind fun aC=>some (!decide (aC.2=.nil)))) | .inr p=>some p) | .inr p=>some p)))))
structure GValidAsked where
  p_ : GPlan
  s_ : GState
  deriving DecidableEq
def Zdg (w : World) (cs : List Value) (x : GValidAsked) : Prop:=∃ v0 v1 v2 v3 v4 v5 v6 v7 v8 v9 v10,cs=[.int .i64 x.p_.Id,.bool x.p_.Mobile,v0,v1,v2,.int .i64 x.p_.Events,v3,.int .i64 x.s_.Id,.int .i64 x.s_.Frame,.int .i64 x.s_.Epoch,v4,v5,v6,v7,v8,v9,v10] ∧ SlR w 2 (Zq Qg) v0 x.p_.Pages ∧ SlR w 3 (Zq Qe) v1 x.p_.Procs ∧ SlR w 4 (Zq Zw) v2 x.p_.Ports ∧ SlR w 1 (Zq eI) v3 x.p_.Sems ∧ SlR w 21 (Zq Gz) v4 x.s_.Procs ∧ SlR w 1 (Zq eI) v5 x.s_.Ready ∧ SlR w 2 (Zq Zh4) v6 x.s_.Timers ∧ SlR w 1 (Zq eF) v7 x.s_.Up ∧ SlR w 1 (Zq eI) v8 x.s_.Sems ∧ SlR w 2 Ys v9 x.s_.Ports ∧ SlR w 66 (Zq Tp) v10 x.s_.Pages
theorem Zdg.mono : Zhy Zdg:=by
  intro w w' cs x e h
  obtain⟨v0,v1,v2,v3,v4,v5,v6,v7,v8,v9,v10,rfl,h0,h1,h2,h3,h4,h5,h6,h7,h8,h9,h10⟩:=h
  exact⟨v0,v1,v2,v3,v4,v5,v6,v7,v8,v9,v10,rfl,h0.agr (Zq.mono _) e,h1.agr (Zq.mono _) e,h2.agr (Zq.mono _) e,h3.agr (Zq.mono _) e,h4.agr (Zq.mono _) e,h5.agr (Zq.mono _) e,h6.agr (Zq.mono _) e,h7.agr (Zq.mono _) e,h8.agr (Zq.mono _) e,h9.agr Ys.mono e,h10.agr (Zq.mono _) e⟩
end Go.Proofs.YtfemfiiagjnhdaaGreatDoor
