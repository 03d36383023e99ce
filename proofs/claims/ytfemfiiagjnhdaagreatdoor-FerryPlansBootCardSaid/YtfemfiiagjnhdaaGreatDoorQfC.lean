/- Part of a claim, shortened by a program from its texts: Sep, Err, ErrW, Byte, List, Gua, Old, Dec, Arr, Deep, Nest, Fast, Mid. -/
import Derived.Test.YtfemfiiagjnhdaaGreatDoorQfA
import Derived.Test.YtfemfiiagjnhdaaGreatDoorQfB
import Derived.LaidEql
import Derived.Stop.Asserts
import Derived.Laws.Externs
import Derived.Test.YtfemfiiagjnhdaaGreatDoorChecked
import Derived.Lib.SlBytesConst
set_option linter.unusedVariables false
set_option linter.unusedSimpArgs false
set_option linter.unusedSectionVars false
namespace Go.Proofs.YtfemfiiagjnhdaaGreatDoor
open Go Go.RowKit
structure ChgP (fp : Nat → Prop) (w w' : World) : Prop where
  os : w'.os=w.os
  tape : w'.tape=w.tape
  output : w'.output=w.output
  size : w.heap.size ≤ w'.heap.size
  block : ∀ k,k < w.heap.size → ¬ fp k → w'.heap[k]? = w.heap[k]?
abbrev NB : Nat → Prop:=fun _=>False
theorem ChgP.refl (fp : Nat → Prop) (w : World) : ChgP fp w w:=⟨rfl,rfl,rfl,Nat.le_refl _,fun _ _ _=>rfl⟩
theorem ChgP.trans2 {fp g : Nat → Prop} {w1 w2 w3 : World} (h : ChgP fp w1 w2) (k : ChgP g w2 w3) (hs : ∀ b,g b → b < w1.heap.size → fp b) : ChgP fp w1 w3:=
  ⟨k.os.trans h.os,k.tape.trans h.tape,k.output.trans h.output,Nat.le_trans h.size k.size,fun i hi hn=>(k.block i (Nat.lt_of_lt_of_le hi h.size) fun hm=>hn (hs i hm hi)).trans (h.block i hi hn)⟩
theorem ChgP.trans {fp : Nat → Prop} {w1 w2 w3 : World} (h : ChgP fp w1 w2) (k : ChgP fp w2 w3) : ChgP fp w1 w3:=h.trans2 k fun _ hb _=>hb
theorem ChgP.of_ext {fp : Nat → Prop} {w w' : World} (e : Ext w w') : ChgP fp w w':=⟨e.os,e.tape,e.output,e.size,fun k hk _=>e.block k hk⟩
theorem ChgP.ext {w w' : World} (h : ChgP NB w w') : Ext w w':=⟨h.os,h.tape,h.output,h.size,fun k hk=>h.block k hk id⟩
theorem ChgP.of_chg {S : List Nat} {fp : Nat → Prop} {w w' : World} (h : Chg S w w') (hs : ∀ b ∈ S,fp b) : ChgP fp w w':=⟨h.os,h.tape,h.output,h.size,fun k hk hn=>h.block k hk fun hm=>hn (hs k hm)⟩
theorem ChgP.mono {fp g : Nat → Prop} {w w' : World} (h : ChgP fp w w') (hs : ∀ b,fp b → b < w.heap.size → g b) : ChgP g w w':=⟨h.os,h.tape,h.output,h.size,fun k hk hn=>h.block k hk fun hm=>hn (hs k hm hk)⟩
theorem ChgP.foot {fp g : Nat → Prop} {w w' : World} {F : World → Prop} (c : ChgP fp w w') (h : Foot F g w) (hd : ∀ b,g b → ¬ fp b) : Foot F g w':=
  ⟨fun b hb=>Nat.lt_of_lt_of_le (h.lt b hb) c.size,fun w'' hw=>h.all w'' fun b hb=>(hw b hb).trans (c.block b (h.lt b hb) (hd b hb))⟩
structure Rs where
  P : World → (Nat → Prop) → Prop
  lt : ∀ {w fp},P w fp → ∀ b,fp b → b < w.heap.size
  loc : ∀ {w w' fp},P w fp → (∀ b,fp b → w'.heap[b]? = w.heap[b]?) → P w' fp
def Sep (w : World) : (Nat → Prop) → List Rs → Prop
  | _,[]=>True
  | U,r :: rs=>∃ fp,r.P w fp ∧ (∀ b,fp b → U b) ∧ Sep w (fun b=>U b ∧ ¬ fp b) rs
theorem Sep.mono {w : World} : ∀ {rs : List Rs} {U V : Nat → Prop},Sep w U rs → (∀ b,U b → V b) → Sep w V rs
  | [],_,_,_,_=>trivial
  | r :: rs,U,V,⟨fp,h1,h2,h3⟩,hs=>⟨fp,h1,fun b hb=>hs b (h2 b hb),h3.mono fun b hb=>⟨hs b hb.1,hb.2⟩⟩
theorem Sep.below {w : World} : ∀ {rs : List Rs} {U : Nat → Prop},Sep w U rs → Sep w (fun b=>U b ∧ b < w.heap.size) rs
  | [],_,_=>trivial
  | r :: rs,U,⟨fp,h1,h2,h3⟩=>⟨fp,h1,fun b hb=>⟨h2 b hb,r.lt h1 b hb⟩,h3.below.mono fun b hb=>⟨⟨hb.1.1,hb.2⟩,hb.1.2⟩⟩
theorem Sep.loc {w w' : World} : ∀ {rs : List Rs} {U : Nat → Prop},Sep w U rs → (∀ b,U b → b < w.heap.size → w'.heap[b]? = w.heap[b]?) → Sep w' U rs
  | [],_,_,_=>trivial
  | r :: rs,U,⟨fp,h1,h2,h3⟩,hs=>⟨fp,r.loc h1 fun b hb=>hs b (h2 b hb) (r.lt h1 b hb),h2,h3.loc fun b hb hl=>hs b hb.1 hl⟩
theorem Sep.swap {w : World} {r1 r2 : Rs} {rs : List Rs} {U : Nat → Prop} : Sep w U (r1 :: r2 :: rs) → Sep w U (r2 :: r1 :: rs)
  | ⟨f1,h1,h2,f2,k1,k2,h3⟩=>⟨f2,k1,fun b hb=>(k2 b hb).1,f1,h1,fun b hb=>⟨h2 b hb,fun hc=>(k2 b hc).2 hb⟩,h3.mono fun b hb=>⟨⟨hb.1.1,hb.2⟩,hb.1.2⟩⟩
theorem Sep.pick {w : World} : ∀ (rs : List Rs) (i : Nat) {r : Rs} {U : Nat → Prop},rs[i]? = some r → Sep w U rs → Sep w U (r :: rs.eraseIdx i)
  | [],i,r,U,h,_=>by simp at h
  | x :: rs,0,r,U,h,hs=>by
    simp only [List.getElem?_cons_zero,Option.some.injEq] at h
    subst h
    exact hs
  | x :: rs,i + 1,r,U,h,⟨fp,h1,h2,h3⟩=>by
    simp only [List.getElem?_cons_succ] at h
    have:=Sep.pick rs i h h3
    exact Sep.swap ⟨fp,h1,h2,this⟩
theorem Sep.tail {w : World} {r : Rs} {rs : List Rs} {U : Nat → Prop} : Sep w U (r :: rs) → Sep w U rs
  | ⟨_,_,_,h⟩=>h.mono fun _ hb=>hb.1
theorem Sep.take {w : World} : ∀ (n : Nat) {rs : List Rs} {U : Nat → Prop},Sep w U rs → Sep w U (rs.take n)
  | 0,_,_,_=>by simp [Sep]
  | n + 1,[],_,_=>by simp [Sep]
  | n + 1,r :: rs,U,⟨fp,h1,h2,h3⟩=>by
    rw [List.take_succ_cons]
    exact⟨fp,h1,h2,h3.take n⟩
theorem Sep.app {w : World} : ∀ {rs1 rs2 : List Rs} {A B U : Nat → Prop},Sep w A rs1 → Sep w B rs2 → (∀ b,A b → ¬ B b) → (∀ b,A b → U b) → (∀ b,B b → U b) → Sep w U (rs1 ++ rs2)
  | [],rs2,A,B,U,_,h2,_,_,hB=>h2.mono hB
  | r :: rs1,rs2,A,B,U,⟨fp,g1,g2,g3⟩,h2,hd,hA,hB=>
    ⟨fp,g1,fun b hb=>hA b (g2 b hb),g3.app h2 (fun b hb=>hd b hb.1) (fun b hb=>⟨hA b hb.1,hb.2⟩) (fun b hb=>⟨hB b hb,fun hc=>hd b (g2 b hc) hb⟩)⟩
theorem Sep.split {w : World} : ∀ (rs1 : List Rs) {rs2 : List Rs} {U : Nat → Prop},Sep w U (rs1 ++ rs2) → ∃ A : Nat → Prop,Sep w A rs1 ∧ (∀ b,A b → U b ∧ b < w.heap.size) ∧ Sep w (fun b=>U b ∧ ¬ A b) rs2
  | [],rs2,U,h=>⟨NB,trivial,fun _ hb=>hb.elim,Sep.mono (rs := rs2) h fun b hb=>⟨hb,id⟩⟩
  | r :: rs1,rs2,U,⟨fp,h1,h2,h3⟩=>by
    obtain⟨A,g1,g2,g3⟩:=Sep.split rs1 h3
    refine⟨fun b=>fp b ∨ A b,⟨fp,h1,fun b hb=>.inl hb,g1.mono fun b hb=>⟨.inr hb,(g2 b hb).1.2⟩⟩,fun b hb=>?_,g3.mono fun b hb=>⟨hb.1.1,fun hc=>hc.elim hb.1.2 hb.2⟩⟩
    rcases hb with hb|hb
    · exact⟨h2 b hb,r.lt h1 b hb⟩
    · exact⟨(g2 b hb).1.1,(g2 b hb).2⟩
theorem Sep.get {w : World} {rs : List Rs} {U : Nat → Prop} (i : Nat) {r : Rs} (h : Sep w U rs) (hi : rs[i]? = some r) : ∃ fp,r.P w fp ∧ ∀ b,fp b → U b:=by
  obtain⟨fp,h1,h2,_⟩:=Sep.pick rs i hi h
  exact⟨fp,h1,h2⟩
theorem Sep.apart {w : World} {rs : List Rs} {U : Nat → Prop} (h : Sep w U rs) : ∀ {rs : List Rs} {U : Nat → Prop},Sep w U rs → ∀ (i j : Nat) {r s : Rs},i < j → rs[i]? = some r → rs[j]? = some s → ∃ f g,r.P w f ∧ s.P w g ∧ ∀ b,f b → ¬ g b
  | [],_,_,i,j,r,s,_,h,_=>by simp at h
  | x :: rs,U,⟨fp,h1,h2,h3⟩,0,j + 1,r,s,_,hi,hj=>by
    simp only [List.getElem?_cons_zero,Option.some.injEq] at hi
    subst hi
    simp only [List.getElem?_cons_succ] at hj
    obtain⟨g,k1,k2⟩:=h3.get j hj
    exact⟨fp,g,h1,k1,fun b hb hc=>(k2 b hc).2 hb⟩
  | x :: rs,U,⟨fp,h1,h2,h3⟩,i + 1,j + 1,r,s,hij,hi,hj=>by
    simp only [List.getElem?_cons_succ] at hi hj
    exact Sep.apart h h3 i j (by omega) hi hj
structure St (fp : Nat → Prop) (w0 w : World) (rs : List Rs) : Prop where
  chg : ChgP fp w0 w
  sep : Sep w (fun b=>fp b ∨ w0.heap.size ≤ b) rs
section
variable {fp : Nat → Prop} {w0 w w' : World} {rs rest : List Rs} {r : Rs}
theorem St.init (h : Sep w fp rs) : St fp w w rs:=⟨ChgP.refl _ _,h.mono fun _ hb=>.inl hb⟩
theorem St.begin (fp : Nat → Prop) (w : World) : St fp w w []:=⟨ChgP.refl _ _,trivial⟩
theorem St.x (h : St NB w0 w rs) : Ext w0 w:=h.chg.ext
theorem St.pick (i : Nat) (h : St fp w0 w rs) (hi : rs[i]? = some r) : St fp w0 w (r :: rs.eraseIdx i):=⟨h.chg,Sep.pick rs i hi h.sep⟩
theorem St.tail (h : St fp w0 w (r :: rs)) : St fp w0 w rs:=⟨h.chg,h.sep.tail⟩
theorem St.take (n : Nat) (h : St fp w0 w rs) : St fp w0 w (rs.take n):=⟨h.chg,h.sep.take n⟩
theorem St.get (i : Nat) (h : St fp w0 w rs) (hi : rs[i]? = some r) : ∃ g,r.P w g:=by
  obtain⟨g,h1,_⟩:=h.sep.get i hi
  exact⟨g,h1⟩
theorem St.frame (rs1 : List Rs) (h : St fp w0 w (rs1 ++ rest)) : ∃ g,Sep w g rs1 ∧ (∀ w',ChgP g w w' → ChgP fp w0 w') ∧ (∀ (j : Nat) (r : Rs),rest[j]? = some r → ∀ w',ChgP g w w' → ∃ f,r.P w' f) ∧ ∀ w' rs',St g w w' rs' → St fp w0 w' (rs' ++ rest):=by
  obtain⟨A,h1,h2,h3⟩:=Sep.split rs1 h.sep
  have key : ∀ w',ChgP A w w' → ChgP fp w0 w':=fun w' c=>h.chg.trans2 c fun b hb hl=>((h2 b hb).1).elim id fun h=>by omega
  have hrest : ∀ w',ChgP A w w' → Sep w' (fun b=>((fp b ∨ w0.heap.size ≤ b) ∧ ¬ A b) ∧ b < w.heap.size) rest:=fun w' c=>h3.below.loc fun b hb hl=>c.block b hl hb.1.2
  refine⟨A,h1,key,fun j r hj w' c=>?_,fun w' rs' k=>⟨key w' k.chg,?_⟩⟩
  · obtain⟨f,g1,_⟩:=(hrest w' c).get j hj
    exact⟨f,g1⟩
  · refine k.sep.app (hrest w' k.chg) (fun b hb hc=>?_) (fun b hb=>?_) (fun b hb=>hb.1.1)
    · rcases hb with hb | hb
      · exact hc.1.2 hb
      · have:=hc.2;omega
    · rcases hb with hb | hb
      · exact (h2 b hb).1
      · exact .inr (Nat.le_trans h.chg.size hb)
theorem St.new {rs' : List Rs} (h : St fp w0 w rest) (k : St NB w w' rs') : St fp w0 w' (rs' ++ rest):=by
  obtain⟨g,_,h1,_,h2⟩:=St.frame (rs1:=[]) (rest:=rest) h
  exact h2 w' rs' ⟨ChgP.of_ext k.chg.ext,k.sep.mono fun b hb=>hb.elim False.elim .inr⟩
theorem St.ext (h : St fp w0 w rs) (e : Ext w w') : St fp w0 w' rs:=h.new (rs':=[]) ⟨ChgP.of_ext e,trivial⟩
theorem St.add {g : Nat → Prop} (h : St fp w0 w rs) (e : Ext w w') (hr : r.P w' g) (hg : ∀ b,g b → w.heap.size ≤ b) : St fp w0 w' (r :: rs):=
  h.new (rs':=[r]) ⟨ChgP.of_ext e,g,hr,fun b hb=>.inr (hg b hb),trivial⟩
theorem St.upd {r' : Rs} (h : St fp w0 w (r :: rs)) (hu : ∀ g,r.P w g → ChgP g w w' ∧ ∃ g',r'.P w' g' ∧ ∀ b,g' b → g b ∨ w.heap.size ≤ b) : St fp w0 w' (r' :: rs):=by
  obtain⟨g,⟨g0,h1,h2,_⟩,_,_,h4⟩:=St.frame (rs1:=[r]) (rest:=rs) h
  obtain⟨c,g',k1,k2⟩:=hu g0 h1
  exact h4 w' [r'] ⟨c.mono fun b hb _=>h2 b hb,g',k1,fun b hb=>(k2 b hb).elim (fun hb=>.inl (h2 b hb)) .inr,trivial⟩
theorem St.conv {r' : Rs} (h : St fp w0 w (r :: rs)) (hu : ∀ g,r.P w g → ∃ g',r'.P w g' ∧ ∀ b,g' b → g b) : St fp w0 w (r' :: rs):=
  h.upd fun g hg=>by
    obtain⟨g',h1,h2⟩:=hu g hg
    exact⟨ChgP.refl _ _,g',h1,fun b hb=>.inl (h2 b hb)⟩
theorem St.after {w1 : World} (h : St fp w0 w []) (k : St NB w w1 rs) : St fp w0 w1 rs:=by
  have:=h.new k
  simpa using this
end
theorem Ziz {w w' : World} {b : Nat} (h : b < w.heap.size) (e : w'.heap[b]? = w.heap[b]?) : b < w'.heap.size:=by
  by_cases hl : b < w'.heap.size
  · exact hl
  · rw [Array.getElem?_eq_none (by omega),Array.getElem?_eq_getElem h] at e
    cases e
def blkR (b : Nat) (cs : List Value) (T : TypeId) : Rs where
  P w fp:=Blk w b cs T ∧ ∀ c,fp c ↔ c=b
  lt h c hc:=by rw [(h.2 c).1 hc];exact h.1.lt
  loc h hw:=⟨h.1.foot.all _ fun c hc=>hw c ((h.2 c).2 hc),h.2⟩
def ownR (E k : Nat) (v : Value) (n : Nat) (xs : List Value) : Rs where
  P w fp:=Own w E k v n xs ∧ ∀ c,fp c ↔ c ∈ Ga v
  lt h c hc:=h.1.lt c ((h.2 c).1 hc)
  loc h hw:=⟨h.1.foot.all _ fun c hc=>hw c ((h.2 c).2 hc),h.2⟩
def anyR (F : World → Prop) : Rs where
  P w fp:=Foot F fp w
  lt h:=h.lt
  loc h hw:=⟨fun b hb=>Ziz (h.lt b hb) (hw b hb),fun w'' h''=>h.all w'' fun b hb=>(h'' b hb).trans (hw b hb)⟩
def exR {α : Type} (r : α → Rs) : Rs where
  P w fp:=∃ x,(r x).P w fp
  lt h:=by obtain⟨x,h⟩:=h;exact (r x).lt h
  loc h hw:=by obtain⟨x,h⟩:=h;exact⟨x,(r x).loc h hw⟩
def pureR (p : Prop) : Rs where
  P w fp:=p ∧ ∀ b,¬ fp b
  lt h b hb:=(h.2 b hb).elim
  loc h _:=h
def starR (rs : List Rs) : Rs where
  P w fp:=Sep w fp rs ∧ ∀ b,fp b → b < w.heap.size
  lt h:=h.2
  loc h hw:=⟨h.1.loc fun b hb _=>hw b hb,fun b hb=>Ziz (h.2 b hb) (hw b hb)⟩
section
variable {fp : Nat → Prop} {w0 w w' : World} {rs rest : List Rs} {r : Rs} {b : Nat} {cs cs' : List Value} {T : TypeId} {E k n : Nat} {v v' : Value} {xs xs' : List Value}
theorem St.blk (i : Nat) (h : St fp w0 w rs) (hi : rs[i]? = some (blkR b cs T)) : Blk w b cs T:=by obtain⟨g,h1,_⟩:=h.get i hi;exact h1
theorem St.own (i : Nat) (h : St fp w0 w rs) (hi : rs[i]? = some (ownR E k v n xs)) : Own w E k v n xs:=by obtain⟨g,h1,_⟩:=h.get i hi;exact h1
theorem St.any (i : Nat) {F : World → Prop} (h : St fp w0 w rs) (hi : rs[i]? = some (anyR F)) : F w:=by obtain⟨g,h1⟩:=h.get i hi;exact Foot.now h1
theorem St.newBlk (h : St fp w0 w rs) (hb : Blk w' b cs T) (e : Ext w w') (hl : w.heap.size=b) : St fp w0 w' (blkR b cs T :: rs):=
  h.add (r:=blkR b cs T) (g:=fun c=>c=b) e ⟨hb,fun _=>Iff.rfl⟩ fun c hc=>by omega
theorem St.newOwn (h : St fp w0 w rs) (hb : Own w' E k v n xs) (e : Ext w w') (hl : ∀ c ∈ Ga v,w.heap.size ≤ c) : St fp w0 w' (ownR E k v n xs :: rs):=
  h.add (r:=ownR E k v n xs) (g:=fun c=>c ∈ Ga v) e ⟨hb,fun _=>Iff.rfl⟩ hl
theorem St.nilOwn (h : St fp w0 w rs) (E k : Nat) : St fp w0 w (ownR E k (.slice none 0 0) 0 [] :: rs):=h.newOwn (Own.nil w E k) Ext.rfl' (by simp [Ga])
theorem St.setBlk (h : St fp w0 w (blkR b cs T :: rs)) (hb : Blk w' b cs' T) (c : Chg [b] w w') : St fp w0 w' (blkR b cs' T :: rs):=
  h.upd fun g hg=>⟨ChgP.of_chg c fun x hx=>(hg.2 x).2 (List.mem_singleton.1 hx),fun x=>x=b,⟨hb,fun _=>Iff.rfl⟩,fun x hx=>.inl ((hg.2 x).2 hx)⟩
theorem St.setOwn {E' k' n' : Nat} (h : St fp w0 w (ownR E k v n xs :: rs)) (hb : Own w' E' k' v' n' xs') (c : Chg (Ga v) w w') (hv : Ga v' = Ga v ∨ ∃ b,Ga v' = [b] ∧ w.heap.size ≤ b) : St fp w0 w' (ownR E' k' v' n' xs' :: rs):=
  h.upd fun g hg=>⟨ChgP.of_chg c fun x hx=>(hg.2 x).2 hx,fun x=>x ∈ Ga v',⟨hb,fun _=>Iff.rfl⟩,fun x hx=>by
    rcases hv with hv | ⟨b,hv,hl⟩
    · exact .inl ((hg.2 x).2 (hv ▸ hx))
    · rw [hv] at hx
      rw [List.mem_singleton.1 hx]
      exact .inr hl⟩
theorem St.star {rs1 : List Rs} (h : St fp w0 w (starR rs1 :: rs)) : St fp w0 w (rs1 ++ rs):=by
  obtain⟨c,f,⟨h1,h2⟩,h3,h4⟩:=h
  exact⟨c,h1.app h4 (fun b hb hc=>hc.2 hb) h3 fun b hb=>hb.1⟩
theorem St.fold (rs1 : List Rs) (h : St fp w0 w (rs1 ++ rs)) : St fp w0 w (starR rs1 :: rs):=by
  obtain⟨c,h⟩:=h
  obtain⟨A,h1,h2,h3⟩:=Sep.split rs1 h
  exact⟨c,A,⟨h1,fun b hb=>(h2 b hb).2⟩,fun b hb=>(h2 b hb).1,h3⟩
theorem St.ex {α : Type} {f : α → Rs} (h : St fp w0 w (exR f :: rs)) : ∃ x,St fp w0 w (f x :: rs):=by
  obtain⟨c,g,⟨x,h1⟩,h3,h4⟩:=h
  exact⟨x,c,g,h1,h3,h4⟩
theorem St.mkEx {α : Type} {f : α → Rs} (x : α) (h : St fp w0 w (f x :: rs)) : St fp w0 w (exR f :: rs):=by
  obtain⟨c,g,h1,h3,h4⟩:=h
  exact⟨c,g,⟨x,h1⟩,h3,h4⟩
theorem St.pure {p : Prop} (h : St fp w0 w (pureR p :: rs)) : p ∧ St fp w0 w rs:=by
  obtain⟨c,g,h1,h3,h4⟩:=h
  exact⟨h1.1,c,h4.mono fun b hb=>hb.1⟩
theorem St.mkPure {p : Prop} (hp : p) (h : St fp w0 w rs) : St fp w0 w (pureR p :: rs):=h.add (g:=NB) Ext.rfl' ⟨hp,fun _ h=>h⟩ fun _ h=>h.elim
theorem St.blkOwn (n k : Nat) (h : St fp w0 w (blkR b cs T :: rs)) (hn : cs.length=n * k) (hm : n ≤ maxLen) : St fp w0 w (ownR T k (.slice (some ⟨b,0,none⟩) n n) n cs :: rs):=
  h.conv fun g hg=>⟨g,⟨Own.ofBlk hg.1 hn hm,fun c=>by rw [hg.2 c];simp [Ga]⟩,fun _ hb=>hb⟩
theorem St.ownAny {F : World → Prop} (h : St fp w0 w (ownR E k v n xs :: rs)) (hF : ∀ w',Own w' E k v n xs → F w') : St fp w0 w (anyR F :: rs):=
  h.conv fun g hg=>⟨fun b=>b ∈ Ga v,hg.1.foot.mono hF,fun b hb=>(hg.2 b).2 hb⟩
theorem St.blkAny {F : World → Prop} (h : St fp w0 w (blkR b cs T :: rs)) (hF : ∀ w',Blk w' b cs T → F w') : St fp w0 w (anyR F :: rs):=
  h.conv fun g hg=>⟨fun c=>c=b,hg.1.foot.mono hF,fun c hc=>(hg.2 c).2 hc⟩
theorem St.anyMono {F G : World → Prop} (h : St fp w0 w (anyR F :: rs)) (hF : ∀ w',F w' → G w') : St fp w0 w (anyR G :: rs):=
  h.conv fun g hg=>⟨g,Foot.mono hg hF,fun b hb=>hb⟩
theorem St.anyAnd {F G : World → Prop} (h : St fp w0 w (anyR F :: anyR G :: rs)) : St fp w0 w (anyR (fun w=>F w ∧ G w) :: rs):=by
  obtain⟨c,f,h1,h2,g,k1,k2,h3⟩:=h
  exact⟨c,fun b=>f b ∨ g b,Foot.and h1 k1,fun b hb=>hb.elim (h2 b) fun hb=>(k2 b hb).1,h3.mono fun b hb=>⟨hb.1.1,fun hc=>hc.elim hb.1.2 hb.2⟩⟩
theorem St.newAny {F : World → Prop} {g : Nat → Prop} (h : St fp w0 w rs) (e : Ext w w') (hF : Foot F g w') (hl : ∀ b,g b → w.heap.size ≤ b) : St fp w0 w' (anyR F :: rs):=h.add (r:=anyR F) e hF hl
theorem St.trivAny {F : World → Prop} (h : St fp w0 w rs) (hF : ∀ w',F w') : St fp w0 w (anyR F :: rs):=h.newAny (g:=NB) Ext.rfl' ⟨fun _ h=>h.elim,fun w' _=>hF w'⟩ fun _ h=>h.elim
theorem St.ne {i j c : Nat} {cs2 : List Value} {T2 : TypeId} (h : St fp w0 w rs) (hij : i ≠ j) (hi : rs[i]? = some (blkR b cs T)) (hj : rs[j]? = some (blkR c cs2 T2)) : b ≠ c:=by
  intro e
  subst e
  rcases Nat.lt_or_gt_of_ne hij with hl|hl
  · obtain⟨f,g,h1,h2,h3⟩:=Sep.apart h.sep h.sep i j hl hi hj
    exact h3 b ((h1.2 b).2 rfl) ((h2.2 b).2 rfl)
  · obtain⟨f,g,h1,h2,h3⟩:=Sep.apart h.sep h.sep j i hl hj hi
    exact h3 b ((h1.2 b).2 rfl) ((h2.2 b).2 rfl)
theorem St.ge {i : Nat} (h : St NB w0 w rs) (hi : rs[i]? = some (blkR b cs T)) : w0.heap.size ≤ b:=by
  obtain⟨g,h1,h2⟩:=h.sep.get i hi
  exact (h2 b ((h1.2 b).2 rfl)).elim False.elim id
end
end Go.Proofs.YtfemfiiagjnhdaaGreatDoor
set_option linter.unusedVariables false
set_option linter.unusedSimpArgs false
set_option linter.unusedSectionVars false
namespace Go.Proofs.YtfemfiiagjnhdaaGreatDoor
open Go Go.RowKit Go.Extern
section
variable {P : Program} {L : Operand → Option Value} {C : World → Prop}
theorem Zhh {x : Operand} {v u : Value} {T I : TypeId} {b : Bool} (e : L x=some v) (hr : ∀ w,(Instr.typeAssert v T I b).run P w=.ok u w) : Q1 P L (.typeAssert x T I b) C u:=
  fun ρ h w' _ dst ty pos af g=>by simp [execOp,h x v e,hr]
theorem q_ext1 {f : FuncId} {x : Operand} {v u : Value} {tys : Array TypeId} (ef : L (.func f)=some (.func (.func f) #[] #[])) (e : L x=some v) (hr : ∀ w,C w → (callFunc f #[v]).run P w=.ok (.value u) w) :
    Q1 P L (.call { callee:=.value (.func f),args:=#[x],argTypes:=tys }) C u:=
  fun ρ h w' hw dst ty pos af g=>by simp [execOp,resolve,h _ _ ef,h x v e,Deferred.ofValue,invoke,hr w' hw]
theorem q_inv0 {x : Operand} {t : TypeId} {v r u : Value} {name : String} {f : FuncId} {tys : Array TypeId} (e : L x=some (.iface t v)) (hm : ∀ w,(method (P.types.size + Made.depth) t v name).run P w=.ok (f,r) w) (hr : ∀ w,C w → (callFunc f #[r]).run P w=.ok (.value u) w) :
    Q1 P L (.call { callee:=.invoke x name,args:=#[],argTypes:=tys }) C u:=
  fun ρ h w' hw dst ty pos af g=>by simp [execOp,resolve,h x _ e,invoke,callMethod,hm,hr w' hw]
end
section
variable {P : Program} {ops : Array Oper} {Q : Exit → Act → World → Prop} {rest : List Oper} {a : Act} {n : Nat} {l : List (Nat × Option Value)} {w : World}
  {ty : TypeId} {pos : String} {af : Array Edge} {d : Nat}
theorem nc_no {lc : List (Nat × (Nat × Bool) × Value)} {op : Op} {j t : Nat} {want b : Bool} (H : HasC ops a n l lc) (hj : (ops[j]?).bind (·.dst)=some t) (ht : lk l t=some (.bool b)) (hb : b ≠ want) (hd : Nat.blt d n=true) (hk : okc ops d lc=true)
    (hg : (match (ops[j]?).bind (·.dst) with | some t=>!(Nat.beq t d) | none=>true)=true)
    (h : ∀ a',HasC ops a' n ((d,none) :: l) ((d,(j,want),undef) :: lc) → wpList P ops Q rest a' w) :
    wpList P ops Q (⟨some d,op,ty,pos,af,some (j,want)⟩ :: rest) a w:=by
  have hy : yielded ops a.tmps j=some b:=Zaa H.has hj ht
  refine wpList_step fun K hK=>?_
  rw [if_neg (fun hw=>by
    have:=(Gq (o:=⟨some d,op,ty,pos,af,some (j,want)⟩) rfl).1 hw
    simp only at this
    rw [hy] at this
    exact hb (Option.some.inj this))]
  exact hK _ _ (h _ (H.putg (j,want) d undef undef hd hk hg fun _=>rfl))
theorem Zdj (ρ : Operand → Value) (dst : Option Nat) (op : Op) (ty : TypeId) (pos : String) (af : Array Edge) (g : Option (Nat × Bool)) : execOp ρ ⟨dst,op,ty,pos,af,g⟩=execOp ρ ⟨dst,op,ty,pos,af,none⟩:=by
  cases op <;> rfl
theorem nc_yes {lc : List (Nat × (Nat × Bool) × Value)} {op : Op} {dst : Option Nat} {j t : Nat} {want : Bool} (H : HasC ops a n l lc) (hj : (ops[j]?).bind (·.dst)=some t) (ht : lk l t=some (.bool want))
    (h : wpList P ops Q (⟨dst,op,ty,pos,af,none⟩ :: rest) a w) : wpList P ops Q (⟨dst,op,ty,pos,af,some (j,want)⟩ :: rest) a w:=by
  have hy : yielded ops a.tmps j=some want:=Zaa H.has hj ht
  have hw : Region.wanted ⟨dst,op,ty,pos,af,some (j,want)⟩ (yielded ops a.tmps)=true:=(Gq (g:=(j,want)) (o:=⟨dst,op,ty,pos,af,some (j,want)⟩) rfl).2 hy
  have hw2 : Region.wanted ⟨dst,op,ty,pos,af,none⟩ (yielded ops a.tmps)=true:=by simp [Region.wanted]
  unfold wpList at h ⊢
  rw [if_pos hw]
  rw [if_pos hw2] at h
  have e1 : ∀ next,Oper.wp P ⟨dst,op,ty,pos,af,some (j,want)⟩ a w next Q ↔ Oper.wp P ⟨dst,op,ty,pos,af,none⟩ a w next Q:=fun next=>by
    unfold Oper.wp
    rw [Zdj]
    unfold Oper.upon
    rfl
  rcases h with h | ⟨h,k⟩
  · exact .inl ((e1 _).2 h)
  · refine .inr ⟨?_,k⟩
    unfold Oper.asks at h ⊢
    rw [Zdj]
    exact h
theorem Zt {L : Operand → Option Value} {C : World → Prop} {c x y : Operand} {v : Value} (ec : L c=some (.bool false)) (ey : L y=some v) : Q1 P L (.pick c x y) C v:=
  fun ρ h w' _ dst ty pos af g=>by simp [execOp,h c _ ec,h y _ ey,asBool]
theorem Zx {L : Operand → Option Value} {C : World → Prop} {c x y : Operand} {v : Value} (ec : L c=some (.bool true)) (ex : L x=some v) : Q1 P L (.pick c x y) C v:=
  fun ρ h w' _ dst ty pos af g=>by simp [execOp,h c _ ec,h x _ ex,asBool]
theorem n_inv {x : Operand} {t : TypeId} {v r : Value} {name : String} {f : FuncId} {tys : Array TypeId} {Φ : Value → World → Prop} (H : Has a n l) (e : lo l x=some (.iface t v)) (hm : ∀ w,(method (P.types.size + Made.depth) t v name).run P w=.ok (f,r) w) (hf : Zq P f=true)
    (hc : Calls P f #[r] w (Ret Φ)) (hd : Nat.blt d n=true) (h : ∀ u w',Φ u w' → ∀ a',Has a' n ((d,some u) :: l) → wpList P ops Q rest a' w') :
    wpList P ops Q (⟨some d,.call { callee:=.invoke x name,args:=#[],argTypes:=tys },ty,pos,af,none⟩ :: rest) a w:=
  wpList_plain rfl fun K hK=>by
    refine Zfz (f:=f) (args:=#[r]) (by
      simp [execOp,resolve,H.eval x _ e,invoke,callMethod,hm,Yf hf]) hc fun u w' hv=>hK _ _ (h u w' hv _ (H.put d u hd))
end
inductive ErrM where
  | nil
  | v (g : Nat)
  | pl (p : Int) (g : Nat)
  deriving DecidableEq
def ErrM.isAt : ErrM → Bool
  | .pl _ _=>true
  | _=>false
def ErrM.g? : ErrM → Option Nat
  | .nil=>none
  | .v g=>some g
  | .pl _ g=>some g
def ErrM.depth : ErrM → Nat
  | .pl _ _=>1
  | _=>0
def ErrM.place : ErrM → Int
  | .pl p _=>p
  | _=>-1
def Xu (TE TA : TypeId) (gs : List Nat) (A : Nat → Addr) (w : World) (u : Value) : ErrM → Prop
  | .nil=>u=.nilIface
  | .v g=>g ∈ gs ∧ u=sv TE A g
  | .pl p g=>g ∈ gs ∧ ∃ b,u=.iface TA (.pointer (some ⟨b,0,none⟩)) ∧ w.cell? ⟨b,0,none⟩=some (.int .i64 p) ∧ w.cell? ⟨b,1,none⟩=some (sv TE A g)
section
variable {TE TA : TypeId} {gs : List Nat} {A : Nat → Addr} {w w' : World} {u : Value} {e : ErrM}
theorem Xu.agr (h : Xu TE TA gs A w u e) (x : Agr w w') : Xu TE TA gs A w' u e:=by
  cases e with
  | nil=>exact h
  | v g=>exact h
  | pl p g=>
    obtain⟨h1,b,h2,h3,h4⟩:=h
    exact⟨h1,b,h2,Zfa h3 x,Zfa h4 x⟩
theorem Xu.ext (h : Xu TE TA gs A w u e) (x : Ext w w') : Xu TE TA gs A w' u e:=h.agr x.agr
theorem Xu.mono {gs' : List Nat} (h : Xu TE TA gs A w u e) (hs : ∀ g ∈ gs,g ∈ gs') : Xu TE TA gs' A w u e:=by
  cases e with
  | nil=>exact h
  | v g=>exact⟨hs g h.1,h.2⟩
  | pl p g=>exact⟨hs g h.1,h.2⟩
theorem Xu.form (h : Xu TE TA gs A w u e) : u=.nilIface ∨ ∃ t x,u=.iface t x:=by
  cases e with
  | nil=>exact .inl h
  | v g=>exact .inr ⟨_,_,h.2⟩
  | pl p g=>obtain⟨_,b,h,_⟩ := h;exact .inr ⟨_,_,h⟩
theorem Xu.one (h : Xu TE TA gs A w u e) : u.oneCell' = true:=by
  rcases h.form with rfl | ⟨t,x,rfl⟩ <;> rfl
theorem Xu.isNil (h : Xu TE TA gs A w u e) : Zek u=decide (e=.nil):=by
  cases e with
  | nil=>rw [show u=.nilIface from h];rfl
  | v g=>rw [show u=sv TE A g from h.2];rfl
  | pl p g=>obtain⟨_,b,h,_⟩ := h;rw [h];rfl
theorem Xu.type (h : Xu TE TA gs A w u e) (hn : e ≠ .nil) : ∃ x,u=.iface (if e.isAt=true then TA else TE) (.pointer (some x)):=by
  cases e with
  | nil=>exact absurd rfl hn
  | v g=>exact⟨_,h.2⟩
  | pl p g=>obtain⟨_,b,h,_⟩ := h;exact⟨_,h⟩
theorem Xu.var {g : Nat} (hg : g ∈ gs) : Xu TE TA gs A w (sv TE A g) (.v g):=⟨hg,rfl⟩
theorem Xu.mk {b : Nat} {T : TypeId} {p : Int} {g : Nat} (hg : g ∈ gs) (hB : Blk w b [.int .i64 p,sv TE A g] T) : Xu TE TA gs A w (.iface TA (.pointer (some ⟨b,0,none⟩))) (.pl p g):=
  ⟨hg,b,rfl,hB.cell 0,hB.cell 1⟩
variable {P : Program}
def ErrM.isV (e : ErrM) (g : Nat) : Bool:=match e with
  | .v g'=>decide (g' = g)
  | _=>false
theorem Zpj {ti te : TypeId} {ms : Array (String × TypeId)} {i j : TypeInfo} (hG : GV TE gs A w) (h : Xu TE TA gs A w u e) {g : Nat} (hg : g ∈ gs) (hne : TA ≠ TE)
    (hi : P.underlying ti=some (.interface ms)) (hp : P.underlying TE=some (.pointer te)) (hinfo : P.info? TE=some i) (hcomp : i.comparable=true) (hte : P.info? te=some j) (hsz : j.size ≠ 0) :
    (binOp .eql ti u (sv TE A g)).run P w=.ok (.bool (e.isV g)) w:=by
  cases e with
  | nil=>rw [show u=.nilIface from h];exact run_eql_iface_nil_left w _ _ hi
  | v g'=>
    rw [show u=sv TE A g' from h.2]
    by_cases hgg : g' = g
    · subst hgg
      have:=run_eql_iface_ptr_same (P:=P) w (A g') hi hp hinfo hcomp hte
      have e1 : ErrM.isV (.v g') g' = true:=by simp [ErrM.isV]
      rw [e1];exact this
    · obtain⟨c1,t1,h1⟩:=(hG.cell g' h.1).2
      obtain⟨c2,t2,h2⟩:=(hG.cell g hg).2
      have:=run_eql_iface_ptr_other (P:=P) w hi hp hinfo hcomp hte hsz (hG.ne g' h.1 g hg hgg) h1 h2
      have e1 : ErrM.isV (.v g') g=false:=by simp [ErrM.isV,hgg]
      rw [e1];exact this
  | pl p g'=>
    obtain⟨_,b,h,_⟩:=h
    rw [h]
    exact run_eql_iface_types _ _ _ _ hi hne w
theorem Znu {ti t' te : TypeId} {ms : Array (String × TypeId)} {i j : TypeInfo} {L : Operand → Option Value} {x y : Operand} (hG : GV TE gs A w) (h : Xu TE TA gs A w u e) {g : Nat} (hg : g ∈ gs) (hne : TA ≠ TE)
    (hi : P.underlying ti=some (.interface ms)) (hp : P.underlying TE=some (.pointer te)) (hinfo : P.info? TE=some i) (hcomp : i.comparable=true) (hte : P.info? te=some j) (hsz : j.size ≠ 0)
    (ex : L x=some u) (ey : L y=some (sv TE A g)) : Q1 P L (.binOp .eql ti x y t') (Ext w) (.bool (e.isV g)):=
  fun ρ hρ w' hw dst ty pos af gd=>by
    have hr:=Zpj (P:=P) (hG.ext hw) (h.ext hw) hg hne hi hp hinfo hcomp hte hsz
    have hgd : (eqGuard .eql ti x y u (sv TE A g)).run P w' = .ok () w':=by
      rcases h.form with rfl | ⟨t,z,rfl⟩ <;> simp [eqGuard,sv]
    simp only [execOp,hρ x _ ex,hρ y _ ey,Sem.run_bind,hgd,Result.andThen_ok,hr,Sem.run_pure]
end
end Go.Proofs.YtfemfiiagjnhdaaGreatDoor
set_option linter.unusedVariables false
set_option linter.unusedSimpArgs false
set_option maxRecDepth 10000
namespace Go.Proofs.YtfemfiiagjnhdaaGreatDoor
open Go Go.RowKit
open Go.Extern
theorem ag3 : Za4 Tryz.prog 3=some false:=by kernel_rfl
theorem Hv : Za4 Tryz.prog 39=some false:=by kernel_rfl
theorem Zcg : Zq Tryz.prog 126=true:=by kernel_rfl
theorem en127 : Zq Tryz.prog 127=true:=by kernel_rfl
theorem en197 : Zq Tryz.prog 197=true:=by kernel_rfl
theorem en287 : Zq Tryz.prog 287=true:=by kernel_rfl
theorem Ztg : Zaw Tryz.prog 214 1=some 1:=by kernel_rfl
theorem sz39 : Jd Tryz.prog 39=some 1:=by kernel_rfl
abbrev Zq9 : List Nat:=[5,8,9,10,7,11,6,4,3,0,12,2,1,13,14,15,16,17,18,19]
abbrev EV (A : Nat → Addr) (w : World) : Prop:=GV 340 Zq9 A w
abbrev IsE (A : Nat → Addr) (w : World) (u : Value) (e : ErrM) : Prop:=Xu 340 210 Zq9 A w u e
def codeG (g : Nat) : Int:=(Zq9.idxOf g : Int) + 1
def ErrM.code (e : ErrM) : Int:=match e.g? with
  | none=>0
  | some g=>codeG g
theorem Tryz.neAE : 210 ≠ 340:=by decide
theorem Tryz.typeOfE (v : Value) (w : World) : (Extern.ReflectliteType.typeOf #[.iface 340 v]).run Tryz.prog w=.ok (.iface 317 (.agg #[.pointer (some ⟨21,340,none⟩)])) w:=by kernel_rfl
theorem Tryz.compE (w : World) : ((Extern.ReflectliteType.method fun t => do Extern.Rtype.noPackHeld "Comparable" t; pure (.bool (← typeInfo t).comparable)) #[.agg #[.pointer (some ⟨21, 340, none⟩)]]).run Tryz.prog w = .ok (.bool true) w := by kernel_rfl
theorem Tryz.mComparable (v : Value) (w : World) : (Go.method (Tryz.prog.types.size + Made.depth) 317 v "Comparable").run Tryz.prog w = .ok (293, v) w := by kernel_rfl
theorem Tryz.compI : (Tryz.prog.info? 340).map (·.comparable)=some true:=by kernel_rfl
theorem Tryz.sizeI : (Tryz.prog.info? 361).map (·.size)=some 1:=by kernel_rfl
theorem Tryz.noIs {A : Nat → Addr} {w0 : World} {u : Value} {e : ErrM} (h : IsE A w0 u e) (hn : e ≠ .nil) (w : World) : (Instr.typeAssert u 39 319 true).run Tryz.prog w=.ok (.tuple #[.nilIface,.bool false]) w:=by
  obtain⟨x,rfl⟩:=h.type hn
  cases e.isAt with
  | true=>exact run_typeAssert_lacksB Tryz.underlying319 (by kernel_rfl) (by kernel_rfl) _ _ w
  | false=>exact run_typeAssert_lacksB Tryz.underlying319 (by kernel_rfl) (by kernel_rfl) _ _ w
theorem Tryz.noUns {A : Nat → Addr} {w0 : World} {u : Value} {e : ErrM} (h : IsE A w0 u e) (hn : e ≠ .nil) (w : World) : (Instr.typeAssert u 39 323 true).run Tryz.prog w=.ok (.tuple #[.nilIface,.bool false]) w:=by
  obtain⟨x,rfl⟩:=h.type hn
  cases e.isAt with
  | true=>exact run_typeAssert_lacksB Tryz.underlying323 (by kernel_rfl) (by kernel_rfl) _ _ w
  | false=>exact run_typeAssert_lacksB Tryz.underlying323 (by kernel_rfl) (by kernel_rfl) _ _ w
theorem Tryz.un {A : Nat → Addr} {w0 : World} {u : Value} {e : ErrM} (h : IsE A w0 u e) (hn : e ≠ .nil) (w : World) : (Instr.typeAssert u 39 322 true).run Tryz.prog w=.ok (.tuple #[bif e.isAt then u else .nilIface,.bool e.isAt]) w:=by
  obtain⟨x,rfl⟩:=h.type hn
  cases e.isAt with
  | true=>exact run_typeAssert_hasB Tryz.underlying322 (by kernel_rfl) _ _ w
  | false=>exact run_typeAssert_lacksB Tryz.underlying322 (by kernel_rfl) (by kernel_rfl) _ _ w
theorem Tryz.callTO (v : Value) (w : World) : (callFunc 196 #[.iface 340 v]).run Tryz.prog w=.ok (.value (.iface 317 (.agg #[.pointer (some ⟨21,340,none⟩)]))) w:=by
  rw [@run_callFunc_extern Tryz.prog 196 _ Extern.ReflectliteType.typeOf Tryz.func196 (by kernel_rfl) (by kernel_rfl) (by kernel_rfl) (by kernel_rfl),Tryz.typeOfE];rfl
theorem Tryz.callCm (w : World) : (callFunc 293 #[.agg #[.pointer (some ⟨21, 340, none⟩)]]).run Tryz.prog w = .ok (.value (.bool true)) w := by
  have h := @run_callFunc_extern Tryz.prog 293 _ (Extern.ReflectliteType.method fun t => do Extern.Rtype.noPackHeld "Comparable" t; pure (.bool (← typeInfo t).comparable)) Tryz.func293 (by kernel_rfl) (by kernel_rfl) (by kernel_rfl) (by kernel_rfl)
  rw [h]
  exact congrArg (fun r : Result Value => r.andThen fun v w1 => Result.ok (Next.value v) w1) (Tryz.compE w)
theorem Zra {w : World} {b : Nat} {u : Value} (h : w.cell? ⟨b,1,none⟩=some u) : Calls Tryz.prog 287 [.pointer (some ⟨b,0,none⟩)].toArray w (Ret fun r w'=>r=u ∧ Ext w w'):=by
  refine enter Tryz.func287 rfl rfl rfl ?_
  intro a H
  dsimp only [Qn,Nat.zero_add,Nat.reduceAdd] at H
  refine wp_seq ?_
  refine wp_region_lit ?_
  refine n_q H (Zb rfl) rfl ?_
  clear H a;intro a H
  refine Ze ?_
  refine Za ?_
  refine wp_seq ?_
  refine wp_region_lit ?_
  refine n_q H (Zd rfl) rfl ?_
  clear H a;intro a H
  refine n_q H (Qa rfl) rfl ?_
  clear H a;intro a H
  refine n_q H (Vg rfl Ztg) rfl ?_
  clear H a;intro a H
  refine n_q H (Zf rfl (LdX.one Hv (show w.cell? ((⟨b,0,none⟩ : Addr).add 1)=some u by rw [Gl];exact h))) rfl ?_
  clear H a;intro a H
  refine n_q H (Zb rfl) rfl ?_
  clear H a;intro a H
  refine Ze ?_
  refine Za ?_
  refine wp_ret ?_
  refine Qx H (.inr rfl) rfl rfl ?_
  exact⟨rfl,Ext.rfl'⟩
theorem Zrb {e e0 : ErrM} {g : Nat} (hgg : e.g? = e0.g?) (h : e.isV g=true) : decide (e0.g? = some g)=true:=by
  cases e with
  | v g'=>
    have h' : g' = g:=by simpa [ErrM.isV] using h
    subst h'
    exact decide_eq_true (hgg.symm : e0.g? = some g')
  | nil=>cases h
  | pl p g'=>cases h
theorem Zpk {e e0 : ErrM} {g : Nat} (hgg : e.g? = e0.g?) (hn : e ≠ .nil) (ha : e.isAt=false) (h : e.isV g=false) : decide (e0.g? = some g)=false:=by
  cases e with
  | v g'=>
    have h' : ¬ g' = g:=by simpa [ErrM.isV] using h
    have e1 : e0.g? = some g':=hgg.symm
    exact decide_eq_false (by rw [e1];simpa using h')
  | nil=>exact absurd rfl hn
  | pl p g'=>cases ha
theorem is_in {w : World} {A : Nat → Addr} {v0 : Value} {e0 : ErrM} {g : Nat} (hG : EV A w) (h : IsE A w v0 e0) (hg : g ∈ Zq9) (hn : e0 ≠ .nil) :
    Calls Tryz.prog 197 [v0,sv 340 A g,.bool true].toArray w (Ret fun r w'=>r=.bool (decide (e0.g? = some g)) ∧ Ext w w'):=by
  obtain⟨i,hi,hcmp⟩:=Option.map_eq_some_iff.1 Tryz.compI
  obtain⟨j,hj,hjs⟩:=Option.map_eq_some_iff.1 Tryz.sizeI
  refine enter Tryz.func197 rfl rfl rfl ?_
  intro a H
  dsimp only [Qn,Nat.zero_add,Nat.reduceAdd] at H
  refine wp_seq ?_
  refine wp_region_lit ?_
  refine n_q H (Zb rfl) rfl ?_
  clear H a;intro a H
  refine Ze ?_
  refine Za ?_
  refine wp_block ?_
  refine Kr (σ:=ErrM × Value) (fun (e,v)=>[(0,v),(1,sv 340 A g),(2,.bool true)]) (fun (e,v) wl=>IsE A wl v e ∧ e ≠ .nil ∧ e.g? = e0.g? ∧ Ext w wl) (fun (e,v)=>e.depth) (e0,v0) H ⟨rfl,rfl,rfl,trivial⟩ ⟨h,hn,rfl,Ext.rfl'⟩ ?_
  clear H;clear a;intro xx a w1 H hR
  obtain⟨e,v⟩:=xx
  simp only [ent,List.map_cons,List.map_nil] at H
  try dsimp only at hR
  obtain⟨hv,hne,hgg,hE2⟩:=hR
  have hX:=hE2
  have hY3:=hE2
  have hv' : IsE A _ v e:=hv
  refine wp_block ?_
  refine wp_seq ?_
  refine wp_seq ?_
  refine wp_region_lit ?_
  refine n_c H (fun HC=>?_);clear H
  refine Zfx HC (Zd rfl) rfl (by kernel_rfl) ?_
  clear HC a;intro a HC
  refine Zfx HC (Zd rfl) rfl (by kernel_rfl) ?_
  clear HC a;intro a HC
  refine Zq3 HC (Zd rfl) (by kernel_rfl) (by kernel_rfl) (by kernel_rfl) ?_
  clear HC a;intro a HC
  refine Zq3 HC (Zd rfl) (by kernel_rfl) (by kernel_rfl) (by kernel_rfl) ?_
  clear HC a;intro a HC
  refine Zq3 HC (Znu (hG.ext hX) (hv.ext Ext.rfl') hg Tryz.neAE Tryz.underlying39 Tryz.underlying340 hi hcmp hj (by rw [hjs];decide) rfl rfl) (by kernel_rfl) (by kernel_rfl) (by kernel_rfl) ?_
  clear HC a;intro a HC
  refine Zst (j:=1) HC rfl rfl rfl (by kernel_rfl) (by kernel_rfl) ?_
  clear HC a;intro a HC
  have H:=HC.has;clear HC
  refine Ze ?_
  refine Za ?_
  refine Zn H rfl (fun hc19=>?_) (fun hc19=>?_)
  · skip
    have q19 : e.isV g=true:=by simpa using hc19
    refine wp_seq ?_
    refine wp_region_lit ?_
    refine n_q H (Zb rfl) rfl ?_
    clear H a;intro a H
    refine Ze ?_
    refine Za ?_
    refine wp_ret ?_
    refine Zh ?_
    refine Zl ?_
    refine Zh ?_
    refine Zl ?_
    refine Qx H (.inr rfl) rfl rfl ?_
    exact⟨congrArg Value.bool (Zrb hgg q19).symm,hX⟩
  · skip
    have q19 : e.isV g=false:=by simpa using hc19
    refine wp_skip ?_
    refine Za ?_
    refine wp_seq ?_
    refine wp_seq ?_
    refine wp_region_lit ?_
    refine n_q H (Zd rfl) rfl ?_
    clear H a;intro a H
    refine n_q H (Zhh rfl (Tryz.noIs hv hne)) rfl ?_
    clear H a;intro a H
    refine n_q H (Zd rfl) rfl ?_
    clear H a;intro a H
    refine n_q H (Zm rfl rfl) rfl ?_
    clear H a;intro a H
    refine n_q H (Zm rfl rfl) rfl ?_
    clear H a;intro a H
    refine n_q H (Zb rfl) rfl ?_
    clear H a;intro a H
    refine n_q H (Zb rfl) rfl ?_
    clear H a;intro a H
    refine Ze ?_
    refine Za ?_
    refine wp_seq ?_
    refine wp_region_lit ?_
    refine n_c H (fun HC=>?_);clear H
    refine Zfx HC (Zd rfl) rfl (by kernel_rfl) ?_
    clear HC a;intro a HC
    refine Zfx HC (Zd rfl) rfl (by kernel_rfl) ?_
    clear HC a;intro a HC
    refine Zq3 HC (Zd rfl) (by kernel_rfl) (by kernel_rfl) (by kernel_rfl) ?_
    clear HC a;intro a HC
    refine Zq3 HC (Zd rfl) (by kernel_rfl) (by kernel_rfl) (by kernel_rfl) ?_
    clear HC a;intro a HC
    refine nc_no HC rfl rfl (by decide) (by kernel_rfl) (by kernel_rfl) (by kernel_rfl) ?_
    clear HC a;intro a HC
    refine Zfx HC (Zt rfl rfl) rfl (by kernel_rfl) ?_
    clear HC a;intro a HC
    have H:=HC.has;clear HC
    refine Ze ?_
    refine Za ?_
    refine Zn H rfl (fun hc30=>?_) (fun hc30=>?_)
    · skip
      cases hc30
    · skip
      refine wp_skip ?_
      refine Za ?_
      refine wp_seq ?_
      refine wp_region_lit ?_
      refine n_q H (Zd rfl) rfl ?_
      clear H a;intro a H
      refine Ze ?_
      refine Za ?_
      refine wp_block ?_
      refine wp_seq ?_
      refine wp_region_lit ?_
      refine n_q H (Zhh rfl (Tryz.un hv hne)) rfl ?_
      clear H a;intro a H
      refine n_q H (Zm rfl rfl) rfl ?_
      clear H a;intro a H
      refine n_q H (Zm rfl rfl) rfl ?_
      clear H a;intro a H
      refine Ze ?_
      refine Za ?_
      refine Zn H rfl (fun hc33=>?_) (fun hc33=>?_)
      · skip
        obtain⟨p1,g1,rfl⟩ : ∃ p g,e=.pl p g:=by cases e <;> simp [ErrM.isAt] at hc33 ⊢
        have hv1:=hv'
        obtain⟨hg1,b1,rfl,hc0,hc1⟩:=hv'
        replace hc1:=Zfb hc1 (Ext.rfl')
        refine wp_seq ?_
        refine wp_region_lit ?_
        refine n_q H (Zb rfl) rfl ?_
        clear H a;intro a H
        refine Ze ?_
        refine Za ?_
        refine wp_seq ?_
        refine wp_region_lit ?_
        refine n_q H (Zd rfl) rfl ?_
        clear H a;intro a H
        refine n_inv H rfl (fun w=>by kernel_rfl) en287 (Zra hc1) rfl ?_
        clear H;intro r w9 hr a H
        obtain⟨rfl,hE9⟩:=hr
        replace hX:=Ext.trans' hX hE9
        replace hY3:=Ext.trans' hY3 hE9
        refine n_q H (Zb rfl) rfl ?_
        clear H a;intro a H
        refine Ze ?_
        refine Za ?_
        refine wp_seq ?_
        refine wp_region_lit ?_
        refine n_q H (Zd rfl) rfl ?_
        clear H a;intro a H
        refine n_q H (Zc9 Tryz.underlying39 rfl rfl (.inr ⟨_,_,rfl⟩)) rfl ?_
        clear H a;intro a H
        refine Ze ?_
        refine Za ?_
        refine Zn H rfl (fun hc38=>?_) (fun hc38=>?_)
        · skip
          exact absurd hc38 (by simp [sv,Zek])
        · skip
          refine wp_skip ?_
          refine Zo ?_
          refine Zo ?_
          refine Za ?_
          exact Uz (.v g1,sv 340 A g1) H ⟨rfl,rfl,rfl,trivial⟩ ⟨⟨hv1.1,rfl⟩,by simp,hgg,hY3⟩ (by simp [ErrM.depth])
      · skip
        refine wp_seq ?_
        refine wp_region_lit ?_
        refine n_q H (Zhh rfl (Tryz.noUns hv hne)) rfl ?_
        clear H a;intro a H
        refine n_q H (Zm rfl rfl) rfl ?_
        clear H a;intro a H
        refine n_q H (Zm rfl rfl) rfl ?_
        clear H a;intro a H
        refine Ze ?_
        refine Za ?_
        refine Zn H rfl (fun hc40=>?_) (fun hc40=>?_)
        · skip
          cases hc40
        · skip
          refine wp_seq ?_
          refine wp_region_lit ?_
          refine n_q H (Zb rfl) rfl ?_
          clear H a;intro a H
          refine Ze ?_
          refine Za ?_
          refine wp_seq ?_
          refine wp_region_lit ?_
          refine n_q H (Zb rfl) rfl ?_
          clear H a;intro a H
          refine Ze ?_
          refine Za ?_
          refine wp_ret ?_
          refine Zl ?_
          refine Zl ?_
          refine Zh ?_
          refine Zl ?_
          refine Qx H (.inr rfl) rfl rfl ?_
          exact⟨congrArg Value.bool (Zpk hgg hne hc33 q19).symm,hX⟩
theorem Zi0 {w : World} {A : Nat → Addr} {v0 : Value} {e0 : ErrM} {g : Nat} (hG : EV A w) (h : IsE A w v0 e0) (hg : g ∈ Zq9) :
    Calls Tryz.prog 126 [v0,sv 340 A g].toArray w (Ret fun r w'=>r=.bool (decide (e0.g? = some g)) ∧ Ext w w'):=by
  obtain⟨i,hi,hcmp⟩:=Option.map_eq_some_iff.1 Tryz.compI
  obtain⟨j,hj,hjs⟩:=Option.map_eq_some_iff.1 Tryz.sizeI
  refine enter Tryz.func126 rfl rfl rfl ?_
  intro a H
  dsimp only [Qn,Nat.zero_add,Nat.reduceAdd] at H
  refine wp_seq ?_
  refine wp_region_lit ?_
  refine n_q H (Zb rfl) rfl ?_
  clear H a;intro a H
  refine Ze ?_
  refine Za ?_
  refine wp_seq ?_
  refine wp_seq ?_
  refine wp_region_lit ?_
  refine n_c H (fun HC=>?_);clear H
  refine Zfx HC (Zd rfl) rfl (by kernel_rfl) ?_
  clear HC a;intro a HC
  refine Zfx HC (Zc9 Tryz.underlying39 rfl rfl h.form) rfl (by kernel_rfl) ?_
  clear HC a;intro a HC
  refine Zfx HC (Zd rfl) rfl (by kernel_rfl) ?_
  clear HC a;intro a HC
  refine Zq3 HC (Zd rfl) (by kernel_rfl) (by kernel_rfl) (by kernel_rfl) ?_
  clear HC a;intro a HC
  refine Zq3 HC (Zc9 Tryz.underlying39 rfl rfl (.inr ⟨_,_,rfl⟩)) (by kernel_rfl) (by kernel_rfl) (by kernel_rfl) ?_
  clear HC a;intro a HC
  refine Zta (j:=2) HC rfl rfl rfl (by kernel_rfl) (by kernel_rfl) ?_
  clear HC a;intro a HC
  have H:=HC.has;clear HC
  refine Ze ?_
  refine Za ?_
  refine Zn H rfl (fun hc11=>?_) (fun hc11=>?_)
  · skip
    have q11 : e0=.nil:=by rw [h.isNil] at hc11;simpa [sv,Zek] using hc11
    subst q11
    refine wp_seq ?_
    refine wp_region_lit ?_
    refine n_q H (Zd rfl) rfl ?_
    clear H a;intro a H
    refine n_q H (Zd rfl) rfl ?_
    clear H a;intro a H
    refine n_q H (Znu (hG.ext Ext.rfl') (h.ext Ext.rfl') hg Tryz.neAE Tryz.underlying39 Tryz.underlying340 hi hcmp hj (by rw [hjs];decide) rfl rfl) rfl ?_
    clear H a;intro a H
    refine n_q H (Zb rfl) rfl ?_
    clear H a;intro a H
    refine Ze ?_
    refine Za ?_
    refine wp_ret ?_
    refine Zh ?_
    refine Qx H (.inr rfl) rfl rfl ?_
    exact⟨by simp [ErrM.isV,ErrM.g?],Ext.rfl'⟩
  · skip
    have q11 : e0 ≠ .nil:=by rw [h.isNil] at hc11;simpa [sv,Zek] using hc11
    refine wp_skip ?_
    refine Za ?_
    refine wp_seq ?_
    refine wp_region_lit ?_
    refine n_q H (Zd rfl) rfl ?_
    clear H a;intro a H
    refine n_q H (q_ext1 rfl rfl (fun w _=>Tryz.callTO _ w)) rfl ?_
    clear H a;intro a H
    refine n_q H (q_inv0 rfl (Tryz.mComparable _) (fun w _=>Tryz.callCm w)) rfl ?_
    clear H a;intro a H
    refine n_q H (Zb rfl) rfl ?_
    clear H a;intro a H
    refine Ze ?_
    refine Za ?_
    refine wp_seq ?_
    refine wp_region_lit ?_
    refine n_q H (Zd rfl) rfl ?_
    clear H a;intro a H
    refine n_q H (Zd rfl) rfl ?_
    clear H a;intro a H
    refine n_q H (Zd rfl) rfl ?_
    clear H a;intro a H
    refine Zk H rfl en197 (is_in (hG.ext Ext.rfl') (h.ext Ext.rfl') hg q11) rfl ?_
    clear H a;intro v3 w1 hv a H
    obtain⟨rfl,hE2⟩:=hv
    have hX:=hE2
    refine n_q H (Zb rfl) rfl ?_
    clear H a;intro a H
    refine Ze ?_
    refine Za ?_
    refine wp_ret ?_
    refine Qx H (.inr rfl) rfl rfl ?_
    exact⟨rfl,hX⟩
theorem Zrc {A : Nat → Addr} {w : World} {v : Value} {e : ErrM} (h : IsE A w v e) (hn : e ≠ .nil) (h0 : ¬ e.g? = some 5 ∧ ¬ e.g? = some 8 ∧ ¬ e.g? = some 9 ∧ ¬ e.g? = some 10 ∧ ¬ e.g? = some 7 ∧ ¬ e.g? = some 11 ∧ ¬ e.g? = some 6 ∧ ¬ e.g? = some 4 ∧ ¬ e.g? = some 3 ∧ ¬ e.g? = some 0) (h1 : ¬ e.g? = some 12 ∧ ¬ e.g? = some 2 ∧ ¬ e.g? = some 1 ∧ ¬ e.g? = some 13 ∧ ¬ e.g? = some 14 ∧ ¬ e.g? = some 15 ∧ ¬ e.g? = some 16 ∧ ¬ e.g? = some 17 ∧ ¬ e.g? = some 18 ∧ ¬ e.g? = some 19) : False:=by
  obtain⟨g,hg,hm⟩ : ∃ g,e.g? = some g ∧ g ∈ Zq9:=by
    cases e with
    | nil=>exact absurd rfl hn
    | v g=>exact⟨g,rfl,h.1⟩
    | pl p g=>exact⟨g,rfl,h.1⟩
  simp only [hg,Option.some.injEq] at h0 h1
  simp only [Zq9,List.mem_cons,List.not_mem_nil,or_false] at hm
  omega
theorem Uq {e : ErrM} {g : Nat} (h : decide (e.g? = some g)=true) : e.code=codeG g:=by
  have : e.g? = some g:=of_decide_eq_true h
  simp [ErrM.code,this]
set_option maxHeartbeats 2000000 in
theorem Zth {w : World} {A : Nat → Addr} {v0 : Value} {e : ErrM} (hG : EV A w) (h : IsE A w v0 e) (hn : e ≠ .nil) (h0 : ¬ e.g? = some 5 ∧ ¬ e.g? = some 8 ∧ ¬ e.g? = some 9 ∧ ¬ e.g? = some 10 ∧ ¬ e.g? = some 7 ∧ ¬ e.g? = some 11 ∧ ¬ e.g? = some 6 ∧ ¬ e.g? = some 4 ∧ ¬ e.g? = some 3 ∧ ¬ e.g? = some 0) :
    Calls Tryz.prog 127 [v0].toArray w (Ret fun r w'=>r=.int .i64 e.code ∧ Ext w w'):=by
  refine enter Tryz.func127 rfl rfl rfl ?_
  intro a H
  dsimp only [Qn,Nat.zero_add,Nat.reduceAdd] at H
  refine wp_seq ?_
  refine wp_region_lit ?_
  refine n_q H (Zb rfl) rfl ?_
  clear H a;intro a H
  refine Ze ?_
  refine Za ?_
  refine wp_seq ?_
  refine wp_block ?_
  refine wp_seq ?_
  refine wp_region_lit ?_
  refine n_q H (Zd rfl) rfl ?_
  clear H a;intro a H
  refine n_q H (Zf rfl (hG.ld 12 (by decide) Hv |>.ext Ext.rfl')) rfl ?_
  clear H a;intro a H
  refine Zk H rfl Zcg (Zi0 (g:=12) (hG.ext Ext.rfl') (h.ext Ext.rfl') (by decide)) rfl ?_
  clear H a;intro v3 w1 hv a H
  obtain⟨rfl,hE2⟩:=hv
  have hX:=hE2
  refine n_q H (Zb rfl) rfl ?_
  clear H a;intro a H
  refine Ze ?_
  refine Za ?_
  refine Zn H rfl (fun hc3=>?_) (fun hc3=>?_)
  · skip
    refine wp_seq ?_
    refine wp_region_lit ?_
    refine n_q H (Zb rfl) rfl ?_
    clear H a;intro a H
    refine Ze ?_
    refine Za ?_
    refine wp_ret ?_
    refine Zl ?_
    refine Zh ?_
    refine Qx H (.inr rfl) rfl rfl ?_
    exact⟨congrArg (Value.int .i64) (Uq hc3).symm,hX⟩
  · skip
    refine wp_seq ?_
    refine wp_region_lit ?_
    refine n_q H (Zd rfl) rfl ?_
    clear H a;intro a H
    refine n_q H (Zf rfl (hG.ld 2 (by decide) Hv |>.ext hX)) rfl ?_
    clear H a;intro a H
    refine Zk H rfl Zcg (Zi0 (g:=2) (hG.ext hX) (h.ext hX) (by decide)) rfl ?_
    clear H a;intro v6 w4 hv a H
    obtain⟨rfl,hE5⟩:=hv
    replace hX:=Ext.trans' hX hE5
    refine n_q H (Zb rfl) rfl ?_
    clear H a;intro a H
    refine Ze ?_
    refine Za ?_
    refine Zn H rfl (fun hc7=>?_) (fun hc7=>?_)
    · skip
      refine wp_seq ?_
      refine wp_region_lit ?_
      refine n_q H (Zb rfl) rfl ?_
      clear H a;intro a H
      refine Ze ?_
      refine Za ?_
      refine wp_ret ?_
      refine Zl ?_
      refine Zh ?_
      refine Qx H (.inr rfl) rfl rfl ?_
      exact⟨congrArg (Value.int .i64) (Uq hc7).symm,hX⟩
    · skip
      refine wp_seq ?_
      refine wp_region_lit ?_
      refine n_q H (Zd rfl) rfl ?_
      clear H a;intro a H
      refine n_q H (Zf rfl (hG.ld 1 (by decide) Hv |>.ext hX)) rfl ?_
      clear H a;intro a H
      refine Zk H rfl Zcg (Zi0 (g:=1) (hG.ext hX) (h.ext hX) (by decide)) rfl ?_
      clear H a;intro v9 w7 hv a H
      obtain⟨rfl,hE8⟩:=hv
      replace hX:=Ext.trans' hX hE8
      refine n_q H (Zb rfl) rfl ?_
      clear H a;intro a H
      refine Ze ?_
      refine Za ?_
      refine Zn H rfl (fun hc11=>?_) (fun hc11=>?_)
      · skip
        refine wp_seq ?_
        refine wp_region_lit ?_
        refine n_q H (Zb rfl) rfl ?_
        clear H a;intro a H
        refine Ze ?_
        refine Za ?_
        refine wp_ret ?_
        refine Zl ?_
        refine Zh ?_
        refine Qx H (.inr rfl) rfl rfl ?_
        exact⟨congrArg (Value.int .i64) (Uq hc11).symm,hX⟩
      · skip
        refine wp_seq ?_
        refine wp_region_lit ?_
        refine n_q H (Zd rfl) rfl ?_
        clear H a;intro a H
        refine n_q H (Zf rfl (hG.ld 13 (by decide) Hv |>.ext hX)) rfl ?_
        clear H a;intro a H
        refine Zk H rfl Zcg (Zi0 (g:=13) (hG.ext hX) (h.ext hX) (by decide)) rfl ?_
        clear H a;intro v12 w10 hv a H
        obtain⟨rfl,hE11⟩:=hv
        replace hX:=Ext.trans' hX hE11
        refine n_q H (Zb rfl) rfl ?_
        clear H a;intro a H
        refine Ze ?_
        refine Za ?_
        refine Zn H rfl (fun hc15=>?_) (fun hc15=>?_)
        · skip
          refine wp_seq ?_
          refine wp_region_lit ?_
          refine n_q H (Zb rfl) rfl ?_
          clear H a;intro a H
          refine Ze ?_
          refine Za ?_
          refine wp_ret ?_
          refine Zl ?_
          refine Zh ?_
          refine Qx H (.inr rfl) rfl rfl ?_
          exact⟨congrArg (Value.int .i64) (Uq hc15).symm,hX⟩
        · skip
          refine wp_seq ?_
          refine wp_region_lit ?_
          refine n_q H (Zd rfl) rfl ?_
          clear H a;intro a H
          refine n_q H (Zf rfl (hG.ld 14 (by decide) Hv |>.ext hX)) rfl ?_
          clear H a;intro a H
          refine Zk H rfl Zcg (Zi0 (g:=14) (hG.ext hX) (h.ext hX) (by decide)) rfl ?_
          clear H a;intro v15 w13 hv a H
          obtain⟨rfl,hE14⟩:=hv
          replace hX:=Ext.trans' hX hE14
          refine n_q H (Zb rfl) rfl ?_
          clear H a;intro a H
          refine Ze ?_
          refine Za ?_
          refine Zn H rfl (fun hc19=>?_) (fun hc19=>?_)
          · skip
            refine wp_seq ?_
            refine wp_region_lit ?_
            refine n_q H (Zb rfl) rfl ?_
            clear H a;intro a H
            refine Ze ?_
            refine Za ?_
            refine wp_ret ?_
            refine Zl ?_
            refine Zh ?_
            refine Qx H (.inr rfl) rfl rfl ?_
            exact⟨congrArg (Value.int .i64) (Uq hc19).symm,hX⟩
          · skip
            refine wp_seq ?_
            refine wp_region_lit ?_
            refine n_q H (Zd rfl) rfl ?_
            clear H a;intro a H
            refine n_q H (Zf rfl (hG.ld 15 (by decide) Hv |>.ext hX)) rfl ?_
            clear H a;intro a H
            refine Zk H rfl Zcg (Zi0 (g:=15) (hG.ext hX) (h.ext hX) (by decide)) rfl ?_
            clear H a;intro v18 w16 hv a H
            obtain⟨rfl,hE17⟩:=hv
            replace hX:=Ext.trans' hX hE17
            refine n_q H (Zb rfl) rfl ?_
            clear H a;intro a H
            refine Ze ?_
            refine Za ?_
            refine Zn H rfl (fun hc23=>?_) (fun hc23=>?_)
            · skip
              refine wp_seq ?_
              refine wp_region_lit ?_
              refine n_q H (Zb rfl) rfl ?_
              clear H a;intro a H
              refine Ze ?_
              refine Za ?_
              refine wp_ret ?_
              refine Zl ?_
              refine Zh ?_
              refine Qx H (.inr rfl) rfl rfl ?_
              exact⟨congrArg (Value.int .i64) (Uq hc23).symm,hX⟩
            · skip
              refine wp_seq ?_
              refine wp_region_lit ?_
              refine n_q H (Zd rfl) rfl ?_
              clear H a;intro a H
              refine n_q H (Zf rfl (hG.ld 16 (by decide) Hv |>.ext hX)) rfl ?_
              clear H a;intro a H
              refine Zk H rfl Zcg (Zi0 (g:=16) (hG.ext hX) (h.ext hX) (by decide)) rfl ?_
              clear H a;intro v21 w19 hv a H
              obtain⟨rfl,hE20⟩:=hv
              replace hX:=Ext.trans' hX hE20
              refine n_q H (Zb rfl) rfl ?_
              clear H a;intro a H
              refine Ze ?_
              refine Za ?_
              refine Zn H rfl (fun hc27=>?_) (fun hc27=>?_)
              · skip
                refine wp_seq ?_
                refine wp_region_lit ?_
                refine n_q H (Zb rfl) rfl ?_
                clear H a;intro a H
                refine Ze ?_
                refine Za ?_
                refine wp_ret ?_
                refine Zl ?_
                refine Zh ?_
                refine Qx H (.inr rfl) rfl rfl ?_
                exact⟨congrArg (Value.int .i64) (Uq hc27).symm,hX⟩
              · skip
                refine wp_seq ?_
                refine wp_region_lit ?_
                refine n_q H (Zd rfl) rfl ?_
                clear H a;intro a H
                refine n_q H (Zf rfl (hG.ld 17 (by decide) Hv |>.ext hX)) rfl ?_
                clear H a;intro a H
                refine Zk H rfl Zcg (Zi0 (g:=17) (hG.ext hX) (h.ext hX) (by decide)) rfl ?_
                clear H a;intro v24 w22 hv a H
                obtain⟨rfl,hE23⟩:=hv
                replace hX:=Ext.trans' hX hE23
                refine n_q H (Zb rfl) rfl ?_
                clear H a;intro a H
                refine Ze ?_
                refine Za ?_
                refine Zn H rfl (fun hc31=>?_) (fun hc31=>?_)
                · skip
                  refine wp_seq ?_
                  refine wp_region_lit ?_
                  refine n_q H (Zb rfl) rfl ?_
                  clear H a;intro a H
                  refine Ze ?_
                  refine Za ?_
                  refine wp_ret ?_
                  refine Zl ?_
                  refine Zh ?_
                  refine Qx H (.inr rfl) rfl rfl ?_
                  exact⟨congrArg (Value.int .i64) (Uq hc31).symm,hX⟩
                · skip
                  refine wp_seq ?_
                  refine wp_region_lit ?_
                  refine n_q H (Zd rfl) rfl ?_
                  clear H a;intro a H
                  refine n_q H (Zf rfl (hG.ld 18 (by decide) Hv |>.ext hX)) rfl ?_
                  clear H a;intro a H
                  refine Zk H rfl Zcg (Zi0 (g:=18) (hG.ext hX) (h.ext hX) (by decide)) rfl ?_
                  clear H a;intro v27 w25 hv a H
                  obtain⟨rfl,hE26⟩:=hv
                  replace hX:=Ext.trans' hX hE26
                  refine n_q H (Zb rfl) rfl ?_
                  clear H a;intro a H
                  refine Ze ?_
                  refine Za ?_
                  refine Zn H rfl (fun hc35=>?_) (fun hc35=>?_)
                  · skip
                    refine wp_seq ?_
                    refine wp_region_lit ?_
                    refine n_q H (Zb rfl) rfl ?_
                    clear H a;intro a H
                    refine Ze ?_
                    refine Za ?_
                    refine wp_ret ?_
                    refine Zl ?_
                    refine Zh ?_
                    refine Qx H (.inr rfl) rfl rfl ?_
                    exact⟨congrArg (Value.int .i64) (Uq hc35).symm,hX⟩
                  · skip
                    refine wp_seq ?_
                    refine wp_region_lit ?_
                    refine n_q H (Zd rfl) rfl ?_
                    clear H a;intro a H
                    refine n_q H (Zf rfl (hG.ld 19 (by decide) Hv |>.ext hX)) rfl ?_
                    clear H a;intro a H
                    refine Zk H rfl Zcg (Zi0 (g:=19) (hG.ext hX) (h.ext hX) (by decide)) rfl ?_
                    clear H a;intro v30 w28 hv a H
                    obtain⟨rfl,hE29⟩:=hv
                    replace hX:=Ext.trans' hX hE29
                    refine n_q H (Zb rfl) rfl ?_
                    clear H a;intro a H
                    refine Ze ?_
                    refine Za ?_
                    refine Zn H rfl (fun hc39=>?_) (fun hc39=>?_)
                    · skip
                      refine wp_seq ?_
                      refine wp_region_lit ?_
                      refine n_q H (Zb rfl) rfl ?_
                      clear H a;intro a H
                      refine Ze ?_
                      refine Za ?_
                      refine wp_ret ?_
                      refine Zl ?_
                      refine Zh ?_
                      refine Qx H (.inr rfl) rfl rfl ?_
                      exact⟨congrArg (Value.int .i64) (Uq hc39).symm,hX⟩
                    · skip
                      refine wp_skip ?_
                      refine Zo ?_
                      refine Za ?_
                      refine wp_seq ?_
                      refine wp_region_lit ?_
                      refine n_q H (Zb rfl) rfl ?_
                      clear H a;intro a H
                      refine Ze ?_
                      refine Za ?_
                      refine wp_ret ?_
                      refine Qx H (.inr rfl) rfl rfl ?_
                      exfalso;exact Zrc h hn h0 ⟨of_decide_eq_false hc3,of_decide_eq_false hc7,of_decide_eq_false hc11,of_decide_eq_false hc15,of_decide_eq_false hc19,of_decide_eq_false hc23,of_decide_eq_false hc27,of_decide_eq_false hc31,of_decide_eq_false hc35,of_decide_eq_false hc39⟩
set_option maxHeartbeats 2000000 in
theorem Zpl {w : World} {A : Nat → Addr} {v0 : Value} {e : ErrM} (hG : EV A w) (h : IsE A w v0 e) :
    Calls Tryz.prog 56 [v0].toArray w (Ret fun r w'=>r=.int .i64 e.code ∧ Ext w w'):=by
  refine enter Tryz.func56 rfl rfl rfl ?_
  intro a H
  dsimp only [Qn,Nat.zero_add,Nat.reduceAdd] at H
  refine wp_seq ?_
  refine wp_region_lit ?_
  refine n_q H (Zb rfl) rfl ?_
  clear H a;intro a H
  refine Ze ?_
  refine Za ?_
  refine wp_seq ?_
  refine wp_block ?_
  refine wp_seq ?_
  refine wp_region_lit ?_
  refine n_q H (Zd rfl) rfl ?_
  clear H a;intro a H
  refine n_q H (Zc9 Tryz.underlying39 rfl rfl h.form) rfl ?_
  clear H a;intro a H
  refine n_q H (Zb rfl) rfl ?_
  clear H a;intro a H
  refine Ze ?_
  refine Za ?_
  refine Zn H rfl (fun hc3=>?_) (fun hc3=>?_)
  · skip
    have q0 : e=.nil:=by rw [h.isNil] at hc3;exact of_decide_eq_true hc3
    refine wp_seq ?_
    refine wp_region_lit ?_
    refine n_q H (Zb rfl) rfl ?_
    clear H a;intro a H
    refine Ze ?_
    refine Za ?_
    refine wp_ret ?_
    refine Zl ?_
    refine Zh ?_
    refine Qx H (.inr rfl) rfl rfl ?_
    exact⟨by rw [q0];rfl,Ext.rfl'⟩
  · skip
    have q0 : e ≠ .nil:=by rw [h.isNil] at hc3;exact of_decide_eq_false hc3
    refine wp_seq ?_
    refine wp_region_lit ?_
    refine n_q H (Zd rfl) rfl ?_
    clear H a;intro a H
    refine n_q H (Zf rfl (hG.ld 5 (by decide) Hv |>.ext Ext.rfl')) rfl ?_
    clear H a;intro a H
    refine Zk H rfl Zcg (Zi0 (g:=5) (hG.ext Ext.rfl') (h.ext Ext.rfl') (by decide)) rfl ?_
    clear H a;intro v3 w1 hv a H
    obtain⟨rfl,hE2⟩:=hv
    have hX:=hE2
    refine n_q H (Zb rfl) rfl ?_
    clear H a;intro a H
    refine Ze ?_
    refine Za ?_
    refine Zn H rfl (fun hc6=>?_) (fun hc6=>?_)
    · skip
      refine wp_seq ?_
      refine wp_region_lit ?_
      refine n_q H (Zb rfl) rfl ?_
      clear H a;intro a H
      refine Ze ?_
      refine Za ?_
      refine wp_ret ?_
      refine Zl ?_
      refine Zh ?_
      refine Qx H (.inr rfl) rfl rfl ?_
      exact⟨congrArg (Value.int .i64) (Uq hc6).symm,hX⟩
    · skip
      refine wp_seq ?_
      refine wp_region_lit ?_
      refine n_q H (Zd rfl) rfl ?_
      clear H a;intro a H
      refine n_q H (Zf rfl (hG.ld 8 (by decide) Hv |>.ext hX)) rfl ?_
      clear H a;intro a H
      refine Zk H rfl Zcg (Zi0 (g:=8) (hG.ext hX) (h.ext hX) (by decide)) rfl ?_
      clear H a;intro v6 w4 hv a H
      obtain⟨rfl,hE5⟩:=hv
      replace hX:=Ext.trans' hX hE5
      refine n_q H (Zb rfl) rfl ?_
      clear H a;intro a H
      refine Ze ?_
      refine Za ?_
      refine Zn H rfl (fun hc10=>?_) (fun hc10=>?_)
      · skip
        refine wp_seq ?_
        refine wp_region_lit ?_
        refine n_q H (Zb rfl) rfl ?_
        clear H a;intro a H
        refine Ze ?_
        refine Za ?_
        refine wp_ret ?_
        refine Zl ?_
        refine Zh ?_
        refine Qx H (.inr rfl) rfl rfl ?_
        exact⟨congrArg (Value.int .i64) (Uq hc10).symm,hX⟩
      · skip
        refine wp_seq ?_
        refine wp_region_lit ?_
        refine n_q H (Zd rfl) rfl ?_
        clear H a;intro a H
        refine n_q H (Zf rfl (hG.ld 9 (by decide) Hv |>.ext hX)) rfl ?_
        clear H a;intro a H
        refine Zk H rfl Zcg (Zi0 (g:=9) (hG.ext hX) (h.ext hX) (by decide)) rfl ?_
        clear H a;intro v9 w7 hv a H
        obtain⟨rfl,hE8⟩:=hv
        replace hX:=Ext.trans' hX hE8
        refine n_q H (Zb rfl) rfl ?_
        clear H a;intro a H
        refine Ze ?_
        refine Za ?_
        refine Zn H rfl (fun hc14=>?_) (fun hc14=>?_)
        · skip
          refine wp_seq ?_
          refine wp_region_lit ?_
          refine n_q H (Zb rfl) rfl ?_
          clear H a;intro a H
          refine Ze ?_
          refine Za ?_
          refine wp_ret ?_
          refine Zl ?_
          refine Zh ?_
          refine Qx H (.inr rfl) rfl rfl ?_
          exact⟨congrArg (Value.int .i64) (Uq hc14).symm,hX⟩
        · skip
          refine wp_seq ?_
          refine wp_region_lit ?_
          refine n_q H (Zd rfl) rfl ?_
          clear H a;intro a H
          refine n_q H (Zf rfl (hG.ld 10 (by decide) Hv |>.ext hX)) rfl ?_
          clear H a;intro a H
          refine Zk H rfl Zcg (Zi0 (g:=10) (hG.ext hX) (h.ext hX) (by decide)) rfl ?_
          clear H a;intro v12 w10 hv a H
          obtain⟨rfl,hE11⟩:=hv
          replace hX:=Ext.trans' hX hE11
          refine n_q H (Zb rfl) rfl ?_
          clear H a;intro a H
          refine Ze ?_
          refine Za ?_
          refine Zn H rfl (fun hc18=>?_) (fun hc18=>?_)
          · skip
            refine wp_seq ?_
            refine wp_region_lit ?_
            refine n_q H (Zb rfl) rfl ?_
            clear H a;intro a H
            refine Ze ?_
            refine Za ?_
            refine wp_ret ?_
            refine Zl ?_
            refine Zh ?_
            refine Qx H (.inr rfl) rfl rfl ?_
            exact⟨congrArg (Value.int .i64) (Uq hc18).symm,hX⟩
          · skip
            refine wp_seq ?_
            refine wp_region_lit ?_
            refine n_q H (Zd rfl) rfl ?_
            clear H a;intro a H
            refine n_q H (Zf rfl (hG.ld 7 (by decide) Hv |>.ext hX)) rfl ?_
            clear H a;intro a H
            refine Zk H rfl Zcg (Zi0 (g:=7) (hG.ext hX) (h.ext hX) (by decide)) rfl ?_
            clear H a;intro v15 w13 hv a H
            obtain⟨rfl,hE14⟩:=hv
            replace hX:=Ext.trans' hX hE14
            refine n_q H (Zb rfl) rfl ?_
            clear H a;intro a H
            refine Ze ?_
            refine Za ?_
            refine Zn H rfl (fun hc22=>?_) (fun hc22=>?_)
            · skip
              refine wp_seq ?_
              refine wp_region_lit ?_
              refine n_q H (Zb rfl) rfl ?_
              clear H a;intro a H
              refine Ze ?_
              refine Za ?_
              refine wp_ret ?_
              refine Zl ?_
              refine Zh ?_
              refine Qx H (.inr rfl) rfl rfl ?_
              exact⟨congrArg (Value.int .i64) (Uq hc22).symm,hX⟩
            · skip
              refine wp_seq ?_
              refine wp_region_lit ?_
              refine n_q H (Zd rfl) rfl ?_
              clear H a;intro a H
              refine n_q H (Zf rfl (hG.ld 11 (by decide) Hv |>.ext hX)) rfl ?_
              clear H a;intro a H
              refine Zk H rfl Zcg (Zi0 (g:=11) (hG.ext hX) (h.ext hX) (by decide)) rfl ?_
              clear H a;intro v18 w16 hv a H
              obtain⟨rfl,hE17⟩:=hv
              replace hX:=Ext.trans' hX hE17
              refine n_q H (Zb rfl) rfl ?_
              clear H a;intro a H
              refine Ze ?_
              refine Za ?_
              refine Zn H rfl (fun hc26=>?_) (fun hc26=>?_)
              · skip
                refine wp_seq ?_
                refine wp_region_lit ?_
                refine n_q H (Zb rfl) rfl ?_
                clear H a;intro a H
                refine Ze ?_
                refine Za ?_
                refine wp_ret ?_
                refine Zl ?_
                refine Zh ?_
                refine Qx H (.inr rfl) rfl rfl ?_
                exact⟨congrArg (Value.int .i64) (Uq hc26).symm,hX⟩
              · skip
                refine wp_seq ?_
                refine wp_region_lit ?_
                refine n_q H (Zd rfl) rfl ?_
                clear H a;intro a H
                refine n_q H (Zf rfl (hG.ld 6 (by decide) Hv |>.ext hX)) rfl ?_
                clear H a;intro a H
                refine Zk H rfl Zcg (Zi0 (g:=6) (hG.ext hX) (h.ext hX) (by decide)) rfl ?_
                clear H a;intro v21 w19 hv a H
                obtain⟨rfl,hE20⟩:=hv
                replace hX:=Ext.trans' hX hE20
                refine n_q H (Zb rfl) rfl ?_
                clear H a;intro a H
                refine Ze ?_
                refine Za ?_
                refine Zn H rfl (fun hc30=>?_) (fun hc30=>?_)
                · skip
                  refine wp_seq ?_
                  refine wp_region_lit ?_
                  refine n_q H (Zb rfl) rfl ?_
                  clear H a;intro a H
                  refine Ze ?_
                  refine Za ?_
                  refine wp_ret ?_
                  refine Zl ?_
                  refine Zh ?_
                  refine Qx H (.inr rfl) rfl rfl ?_
                  exact⟨congrArg (Value.int .i64) (Uq hc30).symm,hX⟩
                · skip
                  refine wp_seq ?_
                  refine wp_region_lit ?_
                  refine n_q H (Zd rfl) rfl ?_
                  clear H a;intro a H
                  refine n_q H (Zf rfl (hG.ld 4 (by decide) Hv |>.ext hX)) rfl ?_
                  clear H a;intro a H
                  refine Zk H rfl Zcg (Zi0 (g:=4) (hG.ext hX) (h.ext hX) (by decide)) rfl ?_
                  clear H a;intro v24 w22 hv a H
                  obtain⟨rfl,hE23⟩:=hv
                  replace hX:=Ext.trans' hX hE23
                  refine n_q H (Zb rfl) rfl ?_
                  clear H a;intro a H
                  refine Ze ?_
                  refine Za ?_
                  refine Zn H rfl (fun hc34=>?_) (fun hc34=>?_)
                  · skip
                    refine wp_seq ?_
                    refine wp_region_lit ?_
                    refine n_q H (Zb rfl) rfl ?_
                    clear H a;intro a H
                    refine Ze ?_
                    refine Za ?_
                    refine wp_ret ?_
                    refine Zl ?_
                    refine Zh ?_
                    refine Qx H (.inr rfl) rfl rfl ?_
                    exact⟨congrArg (Value.int .i64) (Uq hc34).symm,hX⟩
                  · skip
                    refine wp_seq ?_
                    refine wp_region_lit ?_
                    refine n_q H (Zd rfl) rfl ?_
                    clear H a;intro a H
                    refine n_q H (Zf rfl (hG.ld 3 (by decide) Hv |>.ext hX)) rfl ?_
                    clear H a;intro a H
                    refine Zk H rfl Zcg (Zi0 (g:=3) (hG.ext hX) (h.ext hX) (by decide)) rfl ?_
                    clear H a;intro v27 w25 hv a H
                    obtain⟨rfl,hE26⟩:=hv
                    replace hX:=Ext.trans' hX hE26
                    refine n_q H (Zb rfl) rfl ?_
                    clear H a;intro a H
                    refine Ze ?_
                    refine Za ?_
                    refine Zn H rfl (fun hc38=>?_) (fun hc38=>?_)
                    · skip
                      refine wp_seq ?_
                      refine wp_region_lit ?_
                      refine n_q H (Zb rfl) rfl ?_
                      clear H a;intro a H
                      refine Ze ?_
                      refine Za ?_
                      refine wp_ret ?_
                      refine Zl ?_
                      refine Zh ?_
                      refine Qx H (.inr rfl) rfl rfl ?_
                      exact⟨congrArg (Value.int .i64) (Uq hc38).symm,hX⟩
                    · skip
                      refine wp_seq ?_
                      refine wp_region_lit ?_
                      refine n_q H (Zd rfl) rfl ?_
                      clear H a;intro a H
                      refine n_q H (Zf rfl (hG.ld 0 (by decide) Hv |>.ext hX)) rfl ?_
                      clear H a;intro a H
                      refine Zk H rfl Zcg (Zi0 (g:=0) (hG.ext hX) (h.ext hX) (by decide)) rfl ?_
                      clear H a;intro v30 w28 hv a H
                      obtain⟨rfl,hE29⟩:=hv
                      replace hX:=Ext.trans' hX hE29
                      refine n_q H (Zb rfl) rfl ?_
                      clear H a;intro a H
                      refine Ze ?_
                      refine Za ?_
                      refine Zn H rfl (fun hc42=>?_) (fun hc42=>?_)
                      · skip
                        refine wp_seq ?_
                        refine wp_region_lit ?_
                        refine n_q H (Zb rfl) rfl ?_
                        clear H a;intro a H
                        refine Ze ?_
                        refine Za ?_
                        refine wp_ret ?_
                        refine Zl ?_
                        refine Zh ?_
                        refine Qx H (.inr rfl) rfl rfl ?_
                        exact⟨congrArg (Value.int .i64) (Uq hc42).symm,hX⟩
                      · skip
                        refine wp_skip ?_
                        refine Zo ?_
                        refine Za ?_
                        refine wp_seq ?_
                        refine wp_region_lit ?_
                        refine n_q H (Zd rfl) rfl ?_
                        clear H a;intro a H
                        refine Zk H rfl en127 (Zth (hG.ext hX) (h.ext hX) q0 ⟨of_decide_eq_false hc6,of_decide_eq_false hc10,of_decide_eq_false hc14,of_decide_eq_false hc18,of_decide_eq_false hc22,of_decide_eq_false hc26,of_decide_eq_false hc30,of_decide_eq_false hc34,of_decide_eq_false hc38,of_decide_eq_false hc42⟩) rfl ?_
                        clear H a;intro v33 w31 hv a H
                        obtain⟨rfl,hE32⟩:=hv
                        replace hX:=Ext.trans' hX hE32
                        refine n_q H (Zb rfl) rfl ?_
                        clear H a;intro a H
                        refine Ze ?_
                        refine Za ?_
                        refine wp_ret ?_
                        refine Qx H (.inr rfl) rfl rfl ?_
                        exact⟨rfl,hX⟩
def HE (w : World) : Prop:=w.cell? ⟨20,0,none⟩=some (.iface 317 (.agg #[.pointer (some ⟨21,39,none⟩)]))
theorem HE.ext {w w' : World} (h : HE w) (e : Ext w w') : HE w':=Zfb h e
end Go.Proofs.YtfemfiiagjnhdaaGreatDoor
set_option linter.unusedVariables false
set_option linter.unusedSimpArgs false
set_option linter.unusedSectionVars false
namespace Go.Proofs.YtfemfiiagjnhdaaGreatDoor
open Go Go.RowKit
theorem Zi1 (x : UInt8) : ∀ u ∈ eB x,u.oneCell' = true:=by simp [eB]
def Qz (z : Int) : UInt8:=UInt8.ofNat (z % 256).toNat
theorem wrap8 (z : Int) : IntKind.u8.wrap z=((Qz z).toNat : Int):=by
  have h : IntKind.u8.wrap z=z % 256:=by simp [IntKind.wrap,IntKind.bits,IntKind.signed]
  rw [h,Qz,UInt8.toNat_ofNat']
  omega
theorem Zdk (z : Int) : ((Qz z).toNat : Int)=z % 256:=by
  rw [Qz,UInt8.toNat_ofNat'];omega
theorem Zmj (z : Int) : eB (Qz z)=[.int .u8 (IntKind.u8.wrap z)]:=by rw [wrap8];rfl
theorem Znv {z : Int} (h0 : 0 ≤ z) (h1 : z < 256) : eB (Qz z)=[.int .u8 z]:=by
  have:=Zdk z
  simp only [eB]
  congr 2
  omega
section
variable {w : World} {b T : Nat}
end
def Wy (l : List UInt8) : Int:=l.foldl (fun n b=>n * 256 + (b.toNat : Int)) 0
theorem Zi2 (l : List UInt8) (b : UInt8) : Wy (l ++ [b])=Wy l * 256 + (b.toNat : Int):=by simp [Wy]
theorem Znw : ∀ (n : Nat) (l : List UInt8),l.length=n → 0 ≤ Wy l ∧ Wy l < 256 ^ n:=by
  intro n
  induction n with
  | zero=>intro l h;rw [List.eq_nil_of_length_eq_zero h];simp [Wy]
  | succ n ih=>
    intro l h
    obtain⟨l',b,rfl⟩ : ∃ l' b,l=l' ++ [b]:=⟨l.dropLast,l.getLast (by intro e;rw [e] at h;simp at h),(List.dropLast_concat_getLast _).symm⟩
    have hl : l'.length=n:=by simpa using h
    obtain⟨h1,h2⟩:=ih l' hl
    rw [Zi2,Int.pow_succ]
    have:=b.toNat_lt
    omega
theorem or8 {n x : Int} (h0 : 0 ≤ n) (h1 : n < 16777216) (x0 : 0 ≤ x) (x1 : x < 256) {z : Nat} (hz : min z IntKind.i64.bits=8) :
    IntKind.i64.wrap ((BitVec.ofInt IntKind.i64.bits (IntKind.i64.wrap (n * 2 ^ (min z IntKind.i64.bits))) ||| BitVec.ofInt IntKind.i64.bits x).toNat : Int)=n * 256 + x:=by
  have w1 : IntKind.i64.wrap (n * 256)=n * 256:=Qo ⟨by omega,by omega⟩
  have w2 : IntKind.i64.wrap (n * 256 + x)=n * 256 + x:=Qo ⟨by omega,by omega⟩
  have hb : IntKind.i64.bits=64:=rfl
  rw [hz,show (2 : Int) ^ 8=256 from rfl,w1,hb]
  have e1 : BitVec.ofInt 64 (n * 256)=BitVec.ofNat 64 (2 ^ 8 * n.toNat):=by
    rw [show n * 256=((2 ^ 8 * n.toNat : Nat) : Int) from by omega,BitVec.ofInt_natCast]
  have e2 : BitVec.ofInt 64 x=BitVec.ofNat 64 x.toNat:=by
    rw [show x=((x.toNat : Nat) : Int) from by omega,BitVec.ofInt_natCast,Int.toNat_natCast]
  have e3 : (BitVec.ofNat 64 (2 ^ 8 * n.toNat) ||| BitVec.ofNat 64 x.toNat).toNat=2 ^ 8 * n.toNat + x.toNat:=by
    rw [BitVec.toNat_or,BitVec.toNat_ofNat,BitVec.toNat_ofNat,Nat.mod_eq_of_lt (by omega),Nat.mod_eq_of_lt (by omega),← Nat.two_pow_add_eq_or_of_lt (by omega)]
  rw [e1,e2,e3,show (((2 ^ 8 * n.toNat + x.toNat : Nat)) : Int)=n * 256 + x from by omega,w2]
theorem SlR.take {α : Type} {w : World} {k : Nat} {R : World → List Value → α → Prop} {A : Option Addr} {n c : Nat} {xs : List α} (h : SlR w k R (.slice A n c) xs) (m : Nat) (hm : m ≤ n) : SlR w k R (.slice A m c) (xs.take m):=by
  obtain⟨A',c',h1,h2,h3,h4,h5⟩:=h
  cases h1
  have hl : (xs.take m).length=m:=by simp;omega
  refine⟨A,c,by rw [hl],by omega,h3,fun ha=>⟨by rw [(h4 ha).1];simp,(h4 ha).2⟩,fun ad ha i x hx=>?_⟩
  rw [List.getElem?_take] at hx
  split at hx
  · exact h5 ad ha i x hx
  · cases hx
theorem Zpm {α : Type} (k : Nat) (R : World → List Value → α → Prop) (A : Option Addr) (n c : Nat) (xs : List α) {lo hi : Int} (h0 : 0 ≤ lo) (h1 : lo ≤ hi) (h2 : hi ≤ n) :
    ∃ A' c',Value.slice (if c=lo.toNat then A else A.map (·.add (lo.toNat * k))) (hi.toNat - lo.toNat) (c - lo.toNat)=.slice A' (hi.toNat - lo.toNat) c' ∧
      ∀ w,SlR w k R (.slice A n c) xs → SlR w k R (.slice A' (hi.toNat - lo.toNat) c') ((xs.drop lo.toNat).take (hi.toNat - lo.toNat)):=
  ⟨_,_,rfl,fun w h=>(h.drop lo.toNat (by omega)).take _ (by omega)⟩
theorem LdX.k0 {P : Program} {t : TypeId} {w : World} {ad : Addr} {v : Value} (h : LdX P t w ad v) : LdC P t (ChgF [] w.heap.size w) ad v:=
  fun w' hw'=>h w' ⟨hw'.os,hw'.tape,hw'.output,hw'.size,fun k hk=>hw'.block k hk hk (by simp)⟩
theorem LdC.k0 {P : Program} {t : TypeId} {w : World} {ad : Addr} {v : Value} (h : LdC P t (Ext w) ad v) : LdC P t (ChgF [] w.heap.size w) ad v:=LdX.k0 h
theorem Zhi {w : World} {b T : Nat} {cs : List Value} (h : ∃ f,(blkR b cs T).P w f) : Blk w b cs T:=by obtain⟨f,h,_⟩:=h;exact h
theorem To {w : World} {E k n : Nat} {v : Value} {xs : List Value} (h : ∃ f,(ownR E k v n xs).P w f) : Own w E k v n xs:=by obtain⟨f,h,_⟩:=h;exact h
section
variable {P : Program} {ops : Array Oper} {Q : Exit → Act → World → Prop} {rest : List Oper} {a : Act} {n : Nat} {l : List (Nat × Option Value)} {w : World}
  {ty : TypeId} {pos : String} {af : Array Edge} {d : Nat}
theorem Zks {T E k len d1 d2 : Nat} {ps : List (Nat × Operand)} {vs : List (Nat × Value)} {zs cs : List Value} {ty2 : TypeId} {pos2 : String} {af2 : Array Edge} (H : Has a n l) (ht : P.underlying T=some (.slice E)) (he : P.underlying E=some (.int .u8)) (hk : Jd P E=some k) (hz : Hb P E=some zs) (hle : Nat.ble (len * k) 16777216=true)
    (hzl : zs.length=k) (e : loP (lo l) ps=some vs) (hf : Instr.fill (fun i=>some (i * k,k)) ((List.replicate len zs).flatten).toArray vs=some cs.toArray) (hd1 : Nat.blt d1 n=true) (hd2 : Nat.blt d2 n=true)
    (h : ∀ b w',Blk w' b cs E → Ext w w' → w.heap.size=b → ∀ a',Has a' n ((d2,some (.slice (some ⟨b,0,none⟩) len len)) :: (d1,some (.slice (some ⟨b,0,none⟩) len len)) :: l) → wpList P ops Q rest a' w') :
    wpList P ops Q (⟨some d1,.buildSlice T len ps.toArray,ty,pos,af,none⟩ :: ⟨some d2,.convert T T (.tmp d1),ty2,pos2,af2,none⟩ :: rest) a w:=by
  refine Zkl (w':=w.alloc (.cells cs.toArray E)) H (fun ρ hρ=>Znq ht hk hz hle hzl e hf ρ hρ) hd1 fun a1 H1=>?_
  have hc:=Lib.run_convert_bytes_const (P:=P) w T E cs.toArray len len ht he
  refine Zkl (v:=.slice (some ⟨w.heap.size,0,none⟩) len len) (w':=w.alloc (.cells cs.toArray E (cs.toArray.size,cs.toArray.size + 1))) H1 (fun ρ hρ=>?_) hd2 fun a2 H2=>?_
  · have:=hρ (.tmp d1) (.slice (some ⟨w.heap.size,0,none⟩) len len) (by simp [lo,lk])
    simp [execOp,this,hc]
  · refine h w.heap.size _ ⟨(cs.toArray.size,cs.toArray.size + 1),heap_alloc_new w _,fun j hj hle=>?_⟩ (Ext.alloc' _ _) rfl a2 H2
    simp at hle
    omega
theorem Zrd {T E k bytes : Nat} {z : List Value} {q1 q2 : IntKind} {L C : Nat} (ht : P.underlying T=some (.slice E)) (hE : ElemOk P E k bytes z) (hLC : L ≤ C) (hb : C * bytes ≤ 140737488355328) (hm : C ≤ maxLen) (w : World) :
    (Instr.makeSlice T (.int q1 L) (.int q2 C)).run P w=.ok (.slice (some ⟨w.heap.size,0,none⟩) L C) (w.alloc (.cells ((List.replicate C z).flatten).toArray E)):=by
  obtain⟨hsz,hz0,hby,hzl,hk⟩:=hE
  obtain⟨i,hi,hi1⟩ : ∃ i,P.info? E=some i ∧ i.size=k:=by
    unfold Jd at hsz
    cases hq : P.info? E with
    | none=>simp [hq] at hsz
    | some i=>exact⟨i,rfl,by simpa [hq] using hsz⟩
  have hby' : i.bytes=bytes:=by simpa [hi] using hby
  obtain⟨zv,hzv,hzc⟩:=Zd5 hz0 w
  have e1 : IntKind.i64.wrap (C : Int)=C:=Qo (by simp only [maxLen] at hm;constructor <;> omega)
  have e2 : IntKind.i64.wrap (L : Int)=L:=Qo (by simp only [maxLen] at hm;constructor <;> omega)
  have e3 : ¬ ((C : Int) < 0):=by omega
  have e4 : ¬ ((L : Int) < 0):=by omega
  have e5 : ¬ ((C : Int) < (L : Int)):=by omega
  have e6 : ¬ ((281474976710656 : Int) < (bytes : Int) * (C : Int)):=by
    have : bytes * C ≤ 140737488355328:=by rw [Nat.mul_comm];exact hb
    have h2 : ((bytes * C : Nat) : Int)=(bytes : Int) * (C : Int):=by simp
    omega
  have hr : ∀ n w',(askRoom n).run P w' = .ok () w':=fun n w'=>by unfold askRoom;split <;> simp [mark,Sem.run]
  have hzz:=Znp hzl C
  have ha : ∀ (q : IntKind) (z : Int),(asInt (.int q z)).run P w=.ok z w:=fun q z=>by simp [asInt,asIntOf]
  have hti : (typeInfo E).run P w=.ok i w:=by simp [typeInfo,hi]
  unfold Instr.makeSlice
  simp only [Sem.run_bind,run_underlying ht,Result.andThen_ok,ha,hti,Sem.run_pure,hby',e1,e2]
  rw [if_neg (by simp [e3,e4,e5];omega)]
  simp only [Sem.run_bind,hr,Result.andThen_ok,Yz hsz,Sem.run_pure,Int.toNat_natCast]
  by_cases h0 : C * k=0
  · have hC : C=0:=by
      rcases Nat.mul_eq_zero.1 h0 with h|h
      · exact h
      · omega
    subst hC
    simp [newRow]
    rw [show Array.range 0=(#[] : Array Nat) from by simp [Array.range]]
    simp
  · rw [if_neg h0]
    simp only [Sem.run_bind,hzv,Result.andThen_ok,Sem.run_pure,hzc]
    rw [hzz]
    simp [newRow]
end
section
variable {P : Program} {ops : Array Oper} {Q : Exit → Act → World → Prop} {a : Act} {n : Nat} {l : List (Nat × Option Value)} {w : World} {B : List Nat} {k0 h0 : Nat}
  {ty : TypeId} {pos : String} {af : Array Edge} {d fuel : Nat} {listed : Array Bool}
theorem Zre {T E k bytes : Nat} {z : List Value} {q1 q2 : IntKind} {L C : Nat} (hE : ElemOk P E k bytes z) (hLC : L ≤ C) (hm : C ≤ maxLen) (w : World) : Own (w.alloc (.cells ((List.replicate C z).flatten).toArray E)) E k (.slice (some ⟨w.heap.size,0,none⟩) L C) L ((List.replicate L z).flatten):=by
  have hz:=hE.zlen
  refine .inr ⟨w.heap.size,C,(List.replicate C z).flatten,rfl,Blk.new w _ E,hLC,hm,Zf0 hz C,Zf0 hz L,?_⟩
  have e : C=L + (C - L):=by omega
  rw [e,← List.replicate_append_replicate,List.flatten_append,List.take_append_of_le_length (by rw [Zf0 hz];exact Nat.le_refl _),List.take_of_length_le (by rw [Zf0 hz];exact Nat.le_refl _)]
theorem Hf (i : Nat) {x y : Operand} {T E k bytes : Nat} {z : List Value} {q1 q2 : IntKind} {L C : Nat} (H : Has a n l) (hi : ops[i]? = some ⟨some d,.makeSlice T x y,ty,pos,af,none⟩) (ht : P.underlying T=some (.slice E)) (hE : ElemOk P E k bytes z) (ex : lo l x=some (.int q1 L)) (ey : lo l y=some (.int q2 C)) (hLC : L ≤ C)
    (hb : C * bytes ≤ 140737488355328) (hm : C ≤ maxLen) (hd : Nat.blt d n=true)
    (h : ∀ b w',Own w' E k (.slice (some ⟨b,0,none⟩) L C) L ((List.replicate L z).flatten) → Ext w w' → w.heap.size=b → ∀ a',Has a' n ((d,some (.slice (some ⟨b,0,none⟩) L C)) :: l) → wpK P ops Q k0 (ChgF B h0 w') fuel (listed.setIfInBounds i true) a' w') : Zkk P ops Q k0 (ChgF B h0 w) fuel listed i a w:=
  Zsz i (w':=w.alloc (.cells ((List.replicate C z).flatten).toArray E)) H hi (fun ρ hρ=>by simp [execOp,hρ x _ ex,hρ y _ ey,Zrd ht hE hLC hb hm w]) hd (.inl (ChgF.of_ext (Ext.alloc' _ _))) (h w.heap.size _ (Zre (q1:=q1) (q2:=q2) (T:=T) hE hLC hm w) (Ext.alloc' _ _) rfl)
end
end Go.Proofs.YtfemfiiagjnhdaaGreatDoor
set_option linter.unusedVariables false
set_option linter.unusedSimpArgs false
set_option linter.unusedSectionVars false
namespace Go.Proofs.YtfemfiiagjnhdaaGreatDoor
open Go Go.RowKit
section
variable {α : Type} {f : α → Rs} {l : List α} {fp : Nat → Prop} {w0 w : World} {rs rs' : List Rs} {c c' : α} {i : Nat}
end
section
variable {P : Program} {ops : Array Oper} {Q : Exit → Act → World → Prop} {rest : List Oper} {a : Act} {w : World} {n k0 h0 fuel d : Nat} {l : List (Nat × Option Value)} {B : List Nat} {listed : Array Bool} {ty : TypeId} {pos : String} {af : Array Edge}
end
section
variable {P : Program} {ops : Array Oper} {Q : Exit → Act → World → Prop} {k0 : Nat} {S : World → Prop}
theorem Zf2 {i : Nat} {oi : Oper} {v : Value} (hi : ops[i]? = some oi) (hsel : ∀ (j : Nat) (o : Oper) cs b,ops[j]? = some o → o.op ≠ .select cs b)
    (hQ : ∀ c a w,Q (.panic c) (a.put oi.dst v) w → Q (.panic c) a w) (hne : i ≠ k0) :
    ∀ (fuel : Nat) (listed : Array Bool) (a : Act) (w : World),listed.size=ops.size →
      (∀ j oj,ops[j]? = some oj → j ≠ i → listed.getD j true=false → (∀ e ∈ oj.after,Region.binds .any e=true → e.on ≠ i) → oi.apart ops oj=true) →
      i ∈ Region.ready .any ops listed → YieldsIf P ops (fun _=>True) oi v a → (act k0 listed=true → S w) →
      wpK P ops Q k0 S fuel (listed.setIfInBounds i true) (a.put oi.dst v) w → wpK P ops Q k0 S (fuel + 1) listed a w:=by
  have ha : ∀ li : Array Bool,act k0 (li.setIfInBounds i true)=act k0 li:=fun li=>by
    unfold act;rw [getD_set_ne false hne]
  intro fuel
  induction fuel with
  | zero=>
    intro listed a w hsz _ hr hy hS H
    refine⟨fun h=>(by rw [h] at hr;cases hr),fun j hj=>?_⟩
    by_cases hji : j=i
    · subst hji;exact hy.wpOp hi trivial ⟨fun h=>hS (by rwa [ha] at h),H⟩
    · have:=ready_mono hj hji
      rw [H.1] at this
      cases this
  | succ fuel ih=>
    intro listed a w hsz hfree hr hy hS H
    refine⟨fun h=>(by rw [h] at hr;cases hr),fun j hj=>?_⟩
    by_cases hji : j=i
    · subst hji;exact hy.wpOp hi trivial ⟨fun h=>hS (by rwa [ha] at h),H⟩
    · have h1:=H.2 j (ready_mono hj hji)
      obtain⟨hjun,oj,hoj,hall⟩:=mem_ready.1 hj
      have hnot : ∀ e ∈ oj.after,Region.binds .any e=true → e.on ≠ i:=fun e he hb heq=>by
        have h1:=hall e he hb
        have h0:=(mem_ready.1 hr).1
        rw [heq] at h1
        rcases Nat.lt_or_ge i listed.size with h'|h'
        · simp [h'] at h0 h1;rw [h0] at h1;cases h1
        · simp [Array.getElem?_eq_none h'] at h1
      have h2:=wpOp_putIf hoj (hfree j oj hoj hji hjun hnot) (fun cs b=>hsel i oi cs b hi) (fun cs b=>hsel j oj cs b hoj) hQ hy h1
      have hfree' : ∀ k ok,ops[k]? = some ok → k ≠ i → (listed.setIfInBounds j true).getD k true=false →
          (∀ e ∈ ok.after,Region.binds .any e=true → e.on ≠ i) → oi.apart ops ok=true:=fun k ok hk hki hun hno=>by
        refine hfree k ok hk hki ?_ hno
        by_cases hjk : j=k
        · subst hjk;exact hjun
        · rw [getD_set_ne true hjk] at hun;exact hun
      have hcm : (listed.setIfInBounds i true).setIfInBounds j true=(listed.setIfInBounds j true).setIfInBounds i true:=Array.setIfInBounds_comm _ _ (Ne.symm hji)
      refine wpOp_mono (fun a' w' h3=>?_) h2
      have hs' : act k0 (listed.setIfInBounds j true)=true → S w':=fun h=>h3.2.1 (by rw [hcm,ha];exact h)
      refine⟨hs',ih (listed.setIfInBounds j true) a' w' (by simpa using hsz) hfree' (ready_mono hr (Ne.symm hji)) h3.1 hs' ?_⟩
      rw [← hcm]
      exact h3.2.2
end
section
variable {P : Program} {ops : Array Oper} {Q : Exit → Act → World → Prop} {a : Act} {n : Nat} {l : List (Nat × Option Value)} {w : World} {B : List Nat} {k0 h0 : Nat}
  {op : Op} {ty : TypeId} {pos : String} {af : Array Edge} {d fuel : Nat} {v : Value} {listed : Array Bool}
theorem Zg (i : Nat) (H : Has a n l) (hi : ops[i]? = some ⟨some d,op,ty,pos,af,none⟩) (q : Q1 P (lo l) op (fun _=>True) v) (hd : Nat.blt d n=true) (hs : Region.noSelect ops=true) (hf : Region.free .any ops listed i=true)
    (hr : (Region.ready .any ops listed).contains i=true) (hb : (!(Nat.beq i k0) && (Nat.beq listed.size ops.size))=true) (hQ : ∀ c a w,Q (.panic c) (a.put (some d) v) w → Q (.panic c) a w)
    (h : ∀ a',Has a' n ((d,some v) :: l) → wpK P ops Q k0 (ChgF B h0 w) fuel (listed.setIfInBounds i true) a' w) : wpK P ops Q k0 (ChgF B h0 w) (fuel + 1) listed a w:=by
  simp only [Bool.and_eq_true,Bool.not_eq_true'] at hb
  obtain⟨h2,h4⟩:=hb
  exact Zf2 (oi:=⟨some d,op,ty,pos,af,none⟩) (v:=v) hi (Region.noSelect_spec hs) hQ (fun e=>by rw [e,Nat.beq_refl] at h2;cases h2) fuel listed a w (Nat.eq_of_beq_eq_true h4) (Region.free_spec hi hf) (by simpa using hr)
    (.inl ⟨by simp [Region.wanted],fun w' hw=>q a.eval H.eval w' hw (some d) ty pos af none⟩) (fun _=>ChgF.refl _ _ _) (h _ (H.put d v hd))
end
end Go.Proofs.YtfemfiiagjnhdaaGreatDoor
set_option linter.unusedVariables false
set_option linter.unusedSimpArgs false
set_option linter.unusedSectionVars false
namespace Go.Proofs.YtfemfiiagjnhdaaGreatDoor
open Go Go.RowKit
section
variable {P : Program} {ops : Array Oper} {Q : Exit → Act → World → Prop} {a : Act} {n : Nat} {l : List (Nat × Option Value)} {w : World} {B : List Nat} {k0 h0 : Nat}
  {op : Op} {ty : TypeId} {pos : String} {af : Array Edge} {d fuel : Nat} {v : Value} {listed : Array Bool} {j t : Nat} {want : Bool}
theorem Zbw {dst : Option Nat} (H : Has a n l) (hj : (ops[j]?).bind (·.dst)=some t) (ht : lk l t=some (.bool want)) : Region.wanted ⟨dst,op,ty,pos,af,some (j,want)⟩ (yielded ops a.tmps)=true:=
  (Gq (g:=(j,want)) (o:=⟨dst,op,ty,pos,af,some (j,want)⟩) rfl).2 (Zaa H hj ht)
theorem Qq (i : Nat) (H : Has a n l) (hi : ops[i]? = some ⟨some d,op,ty,pos,af,some (j,want)⟩) (hj : (ops[j]?).bind (·.dst)=some t) (ht : lk l t=some (.bool want)) (q : Q1 P (lo l) op (fun _=>True) v) (hd : Nat.blt d n=true) (hs : Region.noSelect ops=true) (hf : Region.free .any ops listed i=true)
    (hr : (Region.ready .any ops listed).contains i=true) (hb : (!(Nat.beq i k0) && (Nat.beq listed.size ops.size))=true) (hQ : ∀ c a w,Q (.panic c) (a.put (some d) v) w → Q (.panic c) a w)
    (h : ∀ a',Has a' n ((d,some v) :: l) → wpK P ops Q k0 (ChgF B h0 w) fuel (listed.setIfInBounds i true) a' w) : wpK P ops Q k0 (ChgF B h0 w) (fuel + 1) listed a w:=by
  simp only [Bool.and_eq_true,Bool.not_eq_true'] at hb
  obtain⟨h2,h4⟩:=hb
  exact Zf2 (oi:=⟨some d,op,ty,pos,af,some (j,want)⟩) (v:=v) hi (Region.noSelect_spec hs) hQ (fun e=>by rw [e,Nat.beq_refl] at h2;cases h2) fuel listed a w (Nat.eq_of_beq_eq_true h4) (Region.free_spec hi hf) (by simpa using hr)
    (.inl ⟨Zbw H hj ht,fun w' hw=>q a.eval H.eval w' hw (some d) ty pos af _⟩) (fun _=>ChgF.refl _ _ _) (h _ (H.put d v hd))
theorem Wm (i : Nat) (H : Has a n l) (hi : ops[i]? = some ⟨some d,op,ty,pos,af,some (j,want)⟩) (hj : (ops[j]?).bind (·.dst)=some t) (ht : lk l t=some (.bool want)) (q : Q1 P (lo l) op (ChgF B h0 w) v) (hd : Nat.blt d n=true) (hs : Region.noSelect ops=true) (hf : Region.free .any ops listed i=true)
    (hr : (Region.ready .any ops listed).contains i=true) (hb : (Zko ops k0 i && !(Nat.beq i k0) && act k0 listed && (Nat.beq listed.size ops.size))=true) (hQ : ∀ c a w,Q (.panic c) (a.put (some d) v) w → Q (.panic c) a w)
    (h : ∀ a',Has a' n ((d,some v) :: l) → wpK P ops Q k0 (ChgF B h0 w) fuel (listed.setIfInBounds i true) a' w) : wpK P ops Q k0 (ChgF B h0 w) (fuel + 1) listed a w:=by
  simp only [Bool.and_eq_true,Bool.not_eq_true'] at hb
  obtain⟨⟨⟨h1,h2⟩,h3⟩,h4⟩:=hb
  exact Zkp (oi:=⟨some d,op,ty,pos,af,some (j,want)⟩) (v:=v) hi (Region.noSelect_spec hs) hQ h1 (fun e=>by rw [e,Nat.beq_refl] at h2;cases h2) fuel listed a w h3 (Nat.eq_of_beq_eq_true h4) (Region.free_spec hi hf) (by simpa using hr)
    (.inl ⟨Zbw H hj ht,fun w' hw=>q a.eval H.eval w' hw (some d) ty pos af _⟩) (ChgF.refl _ _ _) (h _ (H.put d v hd))
theorem Zs0 (i : Nat) {o : Oper} (hi : ops[i]? = some o) (hw : Region.wanted o (yielded ops a.tmps)=true) (hr : Region.ready .any ops listed=[i])
    (h : o.wp P a w (fun a' w'=>Go' B k0 h0 (listed.setIfInBounds i true) w w' ∧ wpK P ops Q k0 (ChgF B h0 w') fuel (listed.setIfInBounds i true) a' w') Q) : wpK P ops Q k0 (ChgF B h0 w) (fuel + 1) listed a w:=by
  refine⟨fun h0=>(by rw [h0] at hr;cases hr),fun j hj=>?_⟩
  rw [hr] at hj
  have:=List.mem_singleton.1 hj
  subst this
  unfold wpOp
  simp only [hi]
  rw [if_pos hw]
  refine .inl (Oper.wp_mono (fun a' w' h'=>?_) h)
  rcases h'.1 with hc|hn
  · exact⟨fun _=>hc,Zd6 (fun w'' hw=>hc.trans hw) _ _ _ _ h'.2⟩
  · exact⟨fun ha=>(by rw [hn] at ha;cases ha),Zgv _ _ _ _ hn h'.2⟩
theorem Zb4 (i : Nat) {f : FuncId} {xs : List Operand} {tys : Array TypeId} {vs : List Value} {Φ : Value → World → Prop} (H : Has a n l)
    (hi : ops[i]? = some ⟨some d,.call { callee:=.value (.func f),args:=xs.toArray,argTypes:=tys },ty,pos,af,some (j,want)⟩) (hj : (ops[j]?).bind (·.dst)=some t) (ht : lk l t=some (.bool want)) (e : Zji l xs=some vs) (hf : Zq P f=true) (hc : Calls P f vs.toArray w (Ret Φ)) (hd : Nat.blt d n=true)
    (hr : Region.ready .any ops listed=[i]) (hΦ : ∀ v w',Φ v w' → Go' B k0 h0 (listed.setIfInBounds i true) w w')
    (h : ∀ v w',Φ v w' → ∀ a',Has a' n ((d,some v) :: l) → wpK P ops Q k0 (ChgF B h0 w') fuel (listed.setIfInBounds i true) a' w') : wpK P ops Q k0 (ChgF B h0 w) (fuel + 1) listed a w:=by
  refine Zs0 i hi (Zbw H hj ht) hr ?_
  refine Zfz (f:=f) (args:=vs.toArray) (by
    have:=Zce H.eval xs vs e
    simp [execOp,resolve,Act.eval,Deferred.ofValue,invoke,Yf hf,this]) hc fun v w' hv=>?_
  exact⟨hΦ v w' hv,h v w' hv _ (H.put d v hd)⟩
end
end Go.Proofs.YtfemfiiagjnhdaaGreatDoor
set_option linter.unusedVariables false
set_option linter.unusedSectionVars false
namespace Go.Proofs.YtfemfiiagjnhdaaGreatDoor
open Go Go.RowKit
theorem ChgF.agr0 {B : List Nat} {h0 : Nat} {w0 w w' : World} (hx : Ext w0 w) (hh : w0.heap.size ≤ h0) (hn : ∀ b ∈ B,w0.heap.size ≤ b) (hw : ChgF B h0 w w') : Agr w0 w':=fun k hk=>
  (hw.block k (Nat.lt_of_lt_of_le hk hx.size) (Nat.lt_of_lt_of_le hk hh) fun hm=>by have:=hn k hm;omega).trans (hx.block k hk)
theorem SlR.old {B : List Nat} {h0 : Nat} {w0 w : World} {v : Value} {xs : List UInt8} (h : SlR w0 1 (Zi eB) v xs) (hx : Ext w0 w) (hh : w0.heap.size ≤ h0) (hn : ∀ b ∈ B,w0.heap.size ≤ b) : ∀ w',ChgF B h0 w w' → SlR w' 1 (Zi eB) v xs:=fun w' hw=>h.agr (Zi.mono _) (ChgF.agr0 hx hh hn hw)
end Go.Proofs.YtfemfiiagjnhdaaGreatDoor
set_option linter.unusedVariables false
set_option linter.unusedSimpArgs false
set_option linter.unusedSectionVars false
namespace Go.Proofs.YtfemfiiagjnhdaaGreatDoor
open Go Go.RowKit
section
variable {σ ρ : Type} {b : σ → Option (σ ⊕ ρ)}
def Ye (b : σ → Option (σ ⊕ ρ)) : Nat → σ → Option ρ
  | 0,_=>none
  | n + 1,s=>match b s with
    | none=>none
    | some (.inl s')=>Ye b n s'
    | some (.inr r)=>some r
theorem Zi3 {r : ρ} : ∀ {n : Nat} {s : σ},Ye b n s=some r → Ye b (n + 1) s=some r
  | 0,s,h=>by cases h
  | n + 1,s,h=>by
    unfold Ye at h ⊢
    cases hb : b s with
    | none=>rw [hb] at h;cases h
    | some o=>
      rw [hb] at h
      cases o with
      | inl s'=>exact Zi3 (n := n) h
      | inr z=>exact h
theorem Zi4 {r : ρ} {n m : Nat} {s : σ} (h : Ye b n s=some r) (hm : n ≤ m) : Ye b m s=some r:=by
  induction hm with
  | refl=>exact h
  | step _ ih=>exact Zi3 ih
theorem Zpn {r r' : ρ} {n m : Nat} {s : σ} (h : Ye b n s=some r) (k : Ye b m s=some r') : r=r':=by
  have h1:=Zi4 h (Nat.le_max_left n m)
  have h2:=Zi4 k (Nat.le_max_right n m)
  rw [h1] at h2
  exact Option.some.inj h2
open Classical in
noncomputable def Gk (b : σ → Option (σ ⊕ ρ)) (s : σ) : Option ρ:=if h : ∃ r n,Ye b n s=some r then some h.choose else none
theorem Ql {r : ρ} {s : σ} (h : Gk b s=some r) : ∃ n,Ye b n s=some r:=by
  unfold Gk at h
  split at h
  · rename_i hx
    have:=hx.choose_spec
    rw [← Option.some.inj h]
    exact this
  · cases h
theorem Zmk {r : ρ} {n : Nat} {s : σ} (h : Ye b n s=some r) : Gk b s=some r:=by
  unfold Gk
  have hx : ∃ r n,Ye b n s=some r:=⟨r,n,h⟩
  rw [dif_pos hx]
  obtain⟨m,hm⟩:=hx.choose_spec
  rw [Zpn hm h]
theorem Ks {s s' : σ} (h : b s=some (.inl s')) : Gk b s=Gk b s':=by
  cases hq : Gk b s' with
  | some r=>
    obtain⟨n,hn⟩:=Ql hq
    exact Zmk (n:=n + 1) (by unfold Ye;rw [h];exact hn)
  | none=>
    cases hp : Gk b s with
    | none=>rfl
    | some r=>
      obtain⟨n,hn⟩:=Ql hp
      cases n with
      | zero=>cases hn
      | succ n=>
        unfold Ye at hn
        rw [h] at hn
        rw [Zmk hn] at hq
        cases hq
theorem Yr {s : σ} {r : ρ} (h : b s=some (.inr r)) : Gk b s=some r:=Zmk (n:=1) (by unfold Ye;rw [h])
def Nx (b : σ → Option (σ ⊕ ρ)) (m : Nat) (r : ρ) : σ ⊕ ρ → Prop
  | .inl s'=>Ye b m s' = some r
  | .inr z=>z=r
theorem Qh {r : ρ} : ∀ {n : Nat} {s : σ},Ye b n s=some r → ∃ m o,n=m + 1 ∧ b s=some o ∧ Nx b m r o
  | 0,s,h=>by cases h
  | n + 1,s,h=>by
    unfold Ye at h
    cases hb : b s with
    | none=>rw [hb] at h;cases h
    | some o=>
      rw [hb] at h
      cases o with
      | inl s'=>exact⟨n,.inl s',rfl,rfl,h⟩
      | inr z=>exact⟨n,.inr z,rfl,rfl,Option.some.inj h⟩
end
section
variable {α β : Type} {r : β}
theorem Zj {o : Option α} {f : α → Option β} (h : o.bind f=some r) : ∃ x,o=some x ∧ f x=some r:=by
  cases o with
  | none=>cases h
  | some x=>exact⟨x,rfl,h⟩
theorem Zu {c : Bool} {x y : Option β} (h : (bif c then x else y)=some r) (hc : c=true) : x=some r:=by rw [hc] at h;exact h
theorem Zv {c : Bool} {x y : Option β} (h : (bif c then x else y)=some r) (hc : c=false) : y=some r:=by rw [hc] at h;exact h
def rdI (xs : List α) (z : Int) : Option α:=if 0 ≤ z then xs[z.toNat]? else none
theorem Ho {xs : List α} {z : Int} {x : α} (h : rdI xs z=some x) : 0 ≤ z ∧ z < xs.length ∧ xs[z.toNat]? = some x:=by
  unfold rdI at h
  split at h
  · rename_i h0
    have:=(List.getElem?_eq_some_iff.1 h).1
    exact⟨h0,by omega,h⟩
  · cases h
def chk (p : Prop) [Decidable p] (o : Option β) : Option β:=if p then o else none
theorem Za6 {p : Prop} [Decidable p] {o : Option β} (h : chk p o=some r) : p ∧ o=some r:=by
  unfold chk at h
  split at h
  · rename_i hp;exact⟨hp,h⟩
  · cases h
theorem Zb5 {α : Type} {xs : List α} {i : Nat} {x : α} (h : xs[i]? = some x) : i < xs.length:=(List.getElem?_eq_some_iff.1 h).1
end
section
variable {P : Program} {ops : Array Oper} {Q : Exit → Act → World → Prop} {Qp : Act → Prop} {rest : List Oper} {a : Act} {n : Nat} {l : List (Nat × Option Value)} {w : World}
  {ty : TypeId} {pos : String} {af : Array Edge} {op : Op} {d : Nat}
theorem Zjo {j t : Nat} {want b : Bool} {dst : Option Nat} (H : Has a n l) (hj : (ops[j]?).bind (·.dst)=some t) (ht : lk l t=some (.bool b)) (hb : b ≠ want) : ¬ Region.wanted ⟨dst,op,ty,pos,af,some (j,want)⟩ (yielded ops a.tmps)=true:=fun hw=>by
  have hy : yielded ops a.tmps j=some b:=Zaa H hj ht
  have:=(Gq (o:=⟨dst,op,ty,pos,af,some (j,want)⟩) rfl).1 hw
  simp only at this
  rw [hy] at this
  exact hb (Option.some.inj this)
theorem Zpo {j t : Nat} {want : Bool} {dst : Option Nat} (H : Has a n l) (hj : (ops[j]?).bind (·.dst)=some t) (ht : lk l t=some undef) : ¬ Region.wanted ⟨dst,op,ty,pos,af,some (j,want)⟩ (yielded ops a.tmps)=true:=fun hw=>by
  have hv:=H.val t _ ht
  have:=(Gq (o:=⟨dst,op,ty,pos,af,some (j,want)⟩) rfl).1 hw
  simp only [yielded,hj,Option.bind_some,hv,undef] at this
  cases this
theorem Zti {j t : Nat} {want : Bool} (H : Has a n l) (hj : (ops[j]?).bind (·.dst)=some t) (ht : lk l t=some undef) (hd : Nat.blt d n=true) (h : ∀ a',Has a' n ((d,some undef) :: l) → wpList P ops Q rest a' w) :
    wpList P ops Q (⟨some d,op,ty,pos,af,some (j,want)⟩ :: rest) a w:=by
  refine wpList_step fun K hK=>?_
  rw [if_neg (Zpo H hj ht)]
  exact hK _ _ (h _ (H.put d undef hd))
theorem Tp {j t : Nat} {want b : Bool} (H : Has a n l) (hj : (ops[j]?).bind (·.dst)=some t) (ht : lk l t=some (.bool b)) (hb : b ≠ want) (hd : Nat.blt d n=true) (h : ∀ a',Has a' n ((d,some undef) :: l) → wpList P ops Q rest a' w) :
    wpList P ops Q (⟨some d,op,ty,pos,af,some (j,want)⟩ :: rest) a w:=by
  refine wpList_step fun K hK=>?_
  rw [if_neg (Zjo H hj ht hb)]
  exact hK _ _ (h _ (H.put d undef hd))
theorem Kq {dst : Option Nat} {j t : Nat} {want : Bool} (H : Has a n l) (hj : (ops[j]?).bind (·.dst)=some t) (ht : lk l t=some (.bool want))
    (h : wpList P ops Q (⟨dst,op,ty,pos,af,none⟩ :: rest) a w) : wpList P ops Q (⟨dst,op,ty,pos,af,some (j,want)⟩ :: rest) a w:=
  nc_yes (H.c ops) hj ht h
theorem Ty {j t : Nat} {want b : Bool} (H : Has a n l) (hj : (ops[j]?).bind (·.dst)=some t) (ht : lk l t=some (.bool b)) (hb : b ≠ want) (hd : Nat.blt d n=true) (h : ∀ a',Has a' n ((d,some undef) :: l) → wpQuiet P ops (Ext w) Qp rest a') :
    wpQuiet P ops (Ext w) Qp (⟨some d,op,ty,pos,af,some (j,want)⟩ :: rest) a:=by
  refine wpQuiet_step fun K hK=>?_
  rw [if_neg (Zjo H hj ht hb)]
  exact hK _ (h _ (H.put d undef hd))
theorem Tq {dst : Option Nat} {j t : Nat} {want : Bool} (H : Has a n l) (hj : (ops[j]?).bind (·.dst)=some t) (ht : lk l t=some (.bool want))
    (h : wpQuiet P ops (Ext w) Qp (⟨dst,op,ty,pos,af,none⟩ :: rest) a) : wpQuiet P ops (Ext w) Qp (⟨dst,op,ty,pos,af,some (j,want)⟩ :: rest) a:=by
  have hy : yielded ops a.tmps j=some want:=Zaa H hj ht
  have hw : Region.wanted ⟨dst,op,ty,pos,af,some (j,want)⟩ (yielded ops a.tmps)=true:=(Gq (g:=(j,want)) (o:=⟨dst,op,ty,pos,af,some (j,want)⟩) rfl).2 hy
  have hw2 : Region.wanted ⟨dst,op,ty,pos,af,none⟩ (yielded ops a.tmps)=true:=by simp [Region.wanted]
  have h' : if Region.wanted ⟨dst,op,ty,pos,af,none⟩ (yielded ops a.tmps) then Oper.quiet P ⟨dst,op,ty,pos,af,none⟩ a (Ext w) (wpQuiet P ops (Ext w) Qp rest) else wpQuiet P ops (Ext w) Qp rest (a.put dst undef):=h
  rw [if_pos hw2] at h'
  refine wpQuiet_step fun K hK=>?_
  rw [if_pos hw]
  obtain⟨v,h1,h2⟩:=h'
  exact⟨v,fun w' hw'=>by have:=h1 w' hw';unfold Oper.quietAt at this ⊢;rw [Zdj];exact this,hK _ h2⟩
end
section
variable {P : Program} {L : Operand → Option Value} {C : World → Prop} {x y z : Operand} {t t' : TypeId} {v : Value} {A : Option Addr} {ad : Addr} {n c i j : Nat}
theorem Qc {T e : TypeId} (ht : P.underlying T=some (.slice e)) (ex : L x=some v) (hv : v=.slice A n c) : Q1 P L (.call { callee:=.builtin .len,args:=#[x],argTypes:=#[T] }) C (.int .i64 n):=Zo8 ht (hv ▸ ex)
theorem Ug {T e k : Nat} {q : IntKind} (ht : P.underlying T=some (.slice e)) (hk : Jd P e=some k) (ex : L x=some v) (hv : v=.slice A n c) (hA : A=some ad) (ey : L y=some (.int q ((i : Nat) : Int))) (hn : i < n) :
    Q1 P L (.indexAddr T x y) C (.pointer (some (ad.add (i * k)))):=by
  have:=Zbh (C:=C) ht hk (show L x=some (.slice (some ad) n c) by rw [ex,hv,hA]) ey (by omega) (by omega)
  exact Xi this (by simp)
theorem Zch {T e k : Nat} {q : IntKind} {z : Int} (ht : P.underlying T=some (.slice e)) (hk : Jd P e=some k) (ex : L x=some v) (hv : v=.slice A n c) (hA : A=some ad) (ey : L y=some (.int q z)) (h0 : 0 ≤ z) (hn : z < n) :
    Q1 P L (.indexAddr T x y) C (.pointer (some (ad.add (z.toNat * k)))):=
  Zbh ht hk (show L x=some (.slice (some ad) n c) by rw [ex,hv,hA]) ey h0 hn
theorem Yt (ex : L x=some (.int .i64 ((i : Nat) : Int))) (ey : L y=some (.int .i64 ((j : Nat) : Int))) (h : i + j ≤ 9223372036854775807) : Q1 P L (.binOp .add t x y t') C (.int .i64 ((i + j : Nat) : Int)):=
  Xi (q_add ex ey (by constructor <;> omega)) (by simp)
section
variable (ex : L x=some (.int .i64 ((i : Nat) : Int))) (ey : L y=some (.int .i64 ((j : Nat) : Int)))
include ex ey
theorem Yc : Q1 P L (.binOp .lss t x y t') C (.bool (decide (i < j))):=Xi (Za5 ex ey) (by simp)
theorem Zgf : Q1 P L (.binOp .gtr t x y t') C (.bool (decide (j < i))):=Xi (Zcd ex ey) (by simp)
theorem Zgg : Q1 P L (.binOp .eql t x y t') C (.bool (decide (i=j))):=Xi (q_eql ex ey) (by congr 1;rw [Bool.eq_iff_iff];simp;omega)
theorem Zel : Q1 P L (.binOp .neq t x y t') C (.bool (!decide (i=j))):=Xi (q_neq ex ey) (by congr 1;rw [Bool.eq_iff_iff];simp;omega)
end
section
variable {k : IntKind} {a b : Int} (ex : L x=some (.int k a)) (ey : L y=some (.int k b))
include ex ey
theorem Jy : Q1 P L (.binOp .eql t x y t') C (.bool (decide (a=b))):=Xi (q_eql ex ey) (by congr 1)
theorem Th : Q1 P L (.binOp .neq t x y t') C (.bool (!decide (a=b))):=Xi (q_neq ex ey) (by congr 1)
end
abbrev Ztj (k : IntKind) (a : Int) : Int:=k.wrap ((BitVec.ofInt k.bits (if k.signed then -1 else k.max) ^^^ BitVec.ofInt k.bits a).toNat : Int)
theorem Zpp {k : IntKind} {a : Int} (ex : L x=some (.int k a)) : Q1 P L (.unOp .xor t x) C (.int k (Ztj k a)):=fun ρ h w' _ dst ty pos af g=>by simp [execOp,h x _ ex,Op.unary,Op.intBits,Ztj]
end
section
variable {P : Program} {w : World} {α : Type} {e : α → List Value} {R : World → List Value → α → Prop} {k : Nat} {v : Value} {A : Option Addr} {ad : Addr} {n c i : Nat} {xs : List α} {x : α} {T : TypeId} {u : Value}
theorem SlR.formV (h : SlR w k R v xs) : ∃ A c,v=.slice A xs.length c ∧ xs.length ≤ c ∧ c ≤ 9223372036854775807:=by
  obtain⟨A,c,h1,h2,h3,_⟩:=h.form
  exact⟨A,c,h1,h2,h3⟩
theorem SlR.adV (h : SlR w k R v xs) (hv : v=.slice A n c) (hx : xs[i]? = some x) : ∃ ad,A=some ad:=by
  subst hv
  obtain⟨A',c',h1,h2,h3,h4,h5⟩:=id h
  cases h1
  exact h.addr (List.getElem?_eq_some_iff.1 hx).1
theorem SlR.ldOneV (h : SlR w 1 (Zi e) v xs) (hv : v=.slice A n c) (hA : A=some ad) (ht : Za4 P T=some false) (hx : xs[i]? = some x) (he : e x=[u]) : LdX P T w (ad.add (i * 1)) u:=by
  subst hv;subst hA
  exact h.ldOne ht hx he
theorem SlR.ldAggV (h : SlR w k (Zi e) v xs) (hv : v=.slice A n c) (hA : A=some ad) (ht : Za4 P T=some true) (hs : Jd P T=some k) (hx : xs[i]? = some x) : LdX P T w (ad.add (i * k)) (.agg (e x).toArray):=by
  subst hv;subst hA
  exact h.ldAgg ht hs hx
theorem SlR.ldCellV {j : Nat} (h : SlR w k (Zi e) v xs) (hv : v=.slice A n c) (hA : A=some ad) (ht : Za4 P T=some false) (hx : xs[i]? = some x) (he : (e x)[j]? = some u) : LdX P T w ((ad.add (i * k)).add j) u:=by
  subst hv;subst hA
  exact h.ldCell ht hx he
end
section
variable {P : Program} {w : World} {α : Type} {e : α → List Value} {R : World → List Value → α → Prop} {k : Nat} {v : Value} {A : Option Addr} {ad : Addr} {n c i : Nat} {xs : List α} {x : α} {T : TypeId} {u : Value}
theorem SlR.nil (w : World) (k : Nat) (R : World → List Value → α → Prop) : SlR w k R (.slice none 0 0) []:=⟨none,0,rfl,Nat.le_refl _,Nat.zero_le _,fun _=>⟨rfl,rfl⟩,fun ad h=>by cases h⟩
theorem SlR.elV (h : SlR w k R v xs) (hv : v=.slice A n c) (hA : A=some ad) (hx : xs[i]? = some x) : ∃ cs : List Value,cs.length=k ∧ R w cs x ∧ ∀ j u,cs[j]? = some u → w.cell? (ad.add (i * k + j))=some u:=by
  subst hv;subst hA
  exact h.el hx
theorem Src.nil (w : World) (k : Nat) {e : α → List Value} : Src w k (.slice none 0 0) ([] : List α).length (([] : List α).flatMap e):=.inl ⟨0,rfl,rfl,rfl⟩
theorem St.blkOwnL {fp : Nat → Prop} {w0 : World} {rs : List Rs} {b : Nat} {cs : List Value} {e : α → List Value} {k : Nat} (xs : List α) (h : St fp w0 w (blkR b cs T :: rs)) (hc : cs=xs.flatMap e) (hn : cs.length=xs.length * k) (hm : xs.length ≤ maxLen) :
    St fp w0 w (ownR T k (.slice (some ⟨b,0,none⟩) xs.length xs.length) xs.length (xs.flatMap e) :: rs):=by
  subst hc
  exact h.blkOwn xs.length k hn hm
theorem Zff (x : UInt8) : Value.int .i64 (IntKind.i64.wrap (x.toNat : Int))=.int .i64 (x.toNat : Int):=by
  rw [Qo]
  have:=x.toNat_lt
  constructor <;> omega
end
section
variable {P : Program} {ops : Array Oper} {Q : Exit → Act → World → Prop} {rest : List Oper} {a : Act} {n : Nat} {l : List (Nat × Option Value)} {w : World}
  {ty : TypeId} {pos : String} {af : Array Edge} {d : Nat} {v u : Value}
theorem Has.know {b c : Bool} (H : Has a n l) (t : Nat) (ht : lk l t=some (.bool b)) (e : b=c) : Has a n ((t,some (.bool c)) :: l):=by
  subst e
  refine⟨H.size,H.defers,fun s v hv=>?_⟩
  simp only [lk] at hv
  cases hq : Nat.beq t s with
  | true=>
    rw [hq] at hv
    obtain rfl:=Nat.eq_of_beq_eq_true hq
    simp only [cond_true,Option.some.injEq] at hv
    rw [← hv]
    exact H.val t _ ht
  | false=>rw [hq] at hv;exact H.val s v hv
theorem Zjp {c : Operand} {x y : Code} (H : Has a n l) (e : lo l c=some (.bool true)) (h : x.wp P Q a w) : (Code.cond c x y).wp P Q a w:=Zn H e (fun _=>h) (fun h=>by cases h)
theorem Zrf {c : Operand} {x y : Code} (H : Has a n l) (e : lo l c=some (.bool false)) (h : y.wp P Q a w) : (Code.cond c x y).wp P Q a w:=Zn H e (fun h=>by cases h) (fun _=>h)
theorem Zbv {α : Type} {e : α → List Value} {xs ys : List α} {x y : Operand} {t t' E k bytes : Nat} {z : List Value} {d' : TypeDesc} (H : Has a n l) (ex : lo l x=some v) (ey : lo l y=some u)
    (ht : P.underlying t=some (.slice E)) (ht' : P.underlying t' = some d') (hd' : ∀ q,d' ≠ .int q) (hE : ElemOk P E k bytes z) (hv : Own w E k v xs.length (xs.flatMap e)) (hx : Src w k u ys.length (ys.flatMap e)) (h1 : ∀ z,∀ c ∈ e z,c.oneCell' = true)
    (hb : (xs.length + ys.length) * bytes ≤ 140737488355328) (h63 : xs.length + ys.length ≤ maxLen) (hd : Nat.blt d n=true)
    (h : ∀ v' w',Own w' E k v' (xs ++ ys).length ((xs ++ ys).flatMap e) → Chg (Ga v) w w' → (Ga v' = Ga v ∨ ∃ b,Ga v' = [b] ∧ w.heap.size ≤ b) → ∀ a',Has a' n ((d,some v') :: l) → wpList P ops Q rest a' w') :
    wpList P ops Q (⟨some d,.call { callee:=.builtin .append,args:=#[x,y],argTypes:=#[t,t'] },ty,pos,af,none⟩ :: rest) a w:=
  Zq7 H ex ey ht ht' hd' hE hv hx (Znt h1 ys) hb h63 hd fun v' w' hO hC hb _ a' H'=>h v' w' (by rw [List.length_append,List.flatMap_append];exact hO) hC hb a' H'
section
variable {α : Type} {e : α → List Value} {xs : List α} {x' x0 : α} {x y : Operand} {t E k i j n0 c : Nat} {A : Option Addr} {ad : Addr}
end
end
def Zrg (p : Int) : ErrM → Option ErrM
  | .v g=>some (.pl p g)
  | _=>none
theorem Zof {p : Int} {e r : ErrM} (h : Zrg p e=some r) : ∃ g,e=.v g ∧ r=.pl p g:=by
  cases e with
  | v g=>exact⟨g,rfl,(Option.some.inj h).symm⟩
  | nil=>cases h
  | pl _ _=>cases h
theorem Qk {place : Nat → Option (Nat × Nat)} {i off : Nat} {v : Value} {zs : List Value} {rest : List (Nat × Value)} (h : v.oneCell' = true) (hp : place i=some (off,1)) (hl : off < zs.length) :
    Instr.fill place zs.toArray ((i,v) :: rest)=Instr.fill place (zs.set off v).toArray rest:=by
  rw [Instr.fill,hp]
  simp only [Zhe h]
  have : ¬ (off + 1 > zs.length):=by omega
  simp [this,List.zipIdx]
abbrev Zdl (k : IntKind) (a b : Int) : Int:=k.wrap ((BitVec.ofInt k.bits a &&& BitVec.ofInt k.bits b).toNat : Int)
abbrev bitOr (k : IntKind) (a b : Int) : Int:=k.wrap ((BitVec.ofInt k.bits a ||| BitVec.ofInt k.bits b).toNat : Int)
abbrev Zci (k : IntKind) (a b : Int) : Int:=k.wrap ((BitVec.ofInt k.bits a ^^^ BitVec.ofInt k.bits b).toNat : Int)
abbrev shL (k : IntKind) (a b : Int) : Int:=k.wrap (a * 2 ^ (min b.toNat k.bits))
abbrev shR (k : IntKind) (a b : Int) : Int:=a.fdiv (2 ^ (min b.toNat k.bits))
section
variable {P : Program} {ops : Array Oper} {Q : Exit → Act → World → Prop} {a : Act} {n : Nat} {l : List (Nat × Option Value)} {w : World} {B : List Nat} {k0 h0 : Nat}
  {op : Op} {ty : TypeId} {pos : String} {af : Array Edge} {d fuel : Nat} {v : Value} {listed : Array Bool} {j t : Nat} {want b : Bool}
theorem Jg (i : Nat) (H : Has a n l) (hi : ops[i]? = some ⟨some d,op,ty,pos,af,some (j,want)⟩) (hj : (ops[j]?).bind (·.dst)=some t) (ht : lk l t=some (.bool b)) (hn : b ≠ want) (hd : Nat.blt d n=true) (hs : Region.noSelect ops=true) (hf : Region.free .any ops listed i=true)
    (hr : (Region.ready .any ops listed).contains i=true) (hb : (!(Nat.beq i k0) && (Nat.beq listed.size ops.size))=true) (hQ : ∀ c a w,Q (.panic c) (a.put (some d) undef) w → Q (.panic c) a w)
    (h : ∀ a',Has a' n ((d,some undef) :: l) → wpK P ops Q k0 (ChgF B h0 w) fuel (listed.setIfInBounds i true) a' w) : wpK P ops Q k0 (ChgF B h0 w) (fuel + 1) listed a w:=by
  simp only [Bool.and_eq_true,Bool.not_eq_true'] at hb
  obtain⟨h2,h4⟩:=hb
  exact Zf2 (oi:=⟨some d,op,ty,pos,af,some (j,want)⟩) (v:=undef) hi (Region.noSelect_spec hs) hQ (fun e=>by rw [e,Nat.beq_refl] at h2;cases h2) fuel listed a w (Nat.eq_of_beq_eq_true h4) (Region.free_spec hi hf) (by simpa using hr)
    (.inr ⟨by simpa using Zjo (dst:=some d) (op:=op) (ty:=ty) (pos:=pos) (af:=af) H hj ht hn,rfl⟩) (fun _=>ChgF.refl _ _ _) (h _ (H.put d undef hd))
end
end Go.Proofs.YtfemfiiagjnhdaaGreatDoor
set_option linter.unusedVariables false
set_option linter.unusedSimpArgs false
set_option linter.unusedSectionVars false
namespace Go.Proofs.YtfemfiiagjnhdaaGreatDoor
open Go Go.RowKit
section
variable {α : Type} {n : Nat}
def rdV (v : Vector α n) (z : Int) : Option α:=if 0 ≤ z then v[z.toNat]? else none
theorem Zgw {v : Vector α n} {z : Int} {x : α} (h : rdV v z=some x) : 0 ≤ z ∧ z < n ∧ v[z.toNat]? = some x:=by
  unfold rdV at h
  split at h
  · rename_i h0
    have:=(Vector.getElem?_eq_some_iff.1 h).1
    exact⟨h0,by omega,h⟩
  · cases h
theorem Zpq (v : Vector α n) (i : Nat) : rdV v (i : Int)=v[i]?:=by simp [rdV]
theorem Zs1 {v : Vector α n} {i : Nat} {x : α} (h : v[i]? = some x) : v.toList[i]? = some x:=by
  obtain⟨hi,rfl⟩:=Vector.getElem?_eq_some_iff.1 h
  rw [List.getElem?_eq_getElem (by simpa using hi)]
  simp
theorem arr_at {A B : List Value} {v : Vector α n} {f : α → Value} {i : Nat} {x : α} (h : v[i]? = some x) : ((A ++ v.toList.map f) ++ B)[A.length + i]? = some (f x):=by
  have hi:=(Vector.getElem?_eq_some_iff.1 h).1
  rw [List.getElem?_append_left (by simp;omega),List.getElem?_append_right (by omega)]
  simp [Zs1 h]
theorem Ztk {B : List Value} {v : Vector α n} {f : α → Value} {i : Nat} {x : α} (h : v[i]? = some x) : (v.toList.map f ++ B)[i]? = some (f x):=by
  have:=arr_at (A:=[]) (B:=B) (f:=f) h
  simpa using this
theorem Zpr {v : Vector α n} {f : α → Value} {i : Nat} {x : α} (h : v[i]? = some x) : (v.toList.map f)[i]? = some (f x):=by simp [Zs1 h]
theorem Ztl (v : Vector α n) (f : α → Value) (i : Nat) (y : α) : (v.toList.map f).set i (f y)=(v.setIfInBounds i y).toList.map f:=by
  rw [← List.map_set]
  congr 1
  simp
end
section
variable {P : Program} {L : Operand → Option Value} {C : World → Prop} {x y : Operand} {ad : Addr} {q : IntKind} {z : Int}
theorem Ztm {T e len : Nat} (ht : P.underlying T=some (.array len e)) (hk : Jd P e=some 1) (ex : L x=some (.pointer (some ad))) (ey : L y=some (.int q z)) (h0 : 0 ≤ z) (hn : z < len) : Q1 P L (.indexAddr T x y) C (.pointer (some (ad.add z.toNat))):=
  fun ρ h w' _ dst ty pos af g=>by simp [execOp,h x _ ex,h y _ ey,Instr.indexAt,Instr.sureAddr,asIntOf,run_underlying ht,h0,hn,Yz hk]
theorem Zjq {T e len b o : Nat} (ht : P.underlying T=some (.array len e)) (hk : Jd P e=some 1) (ex : L x=some (.pointer (some ⟨b,o,none⟩))) (ey : L y=some (.int q z)) (h0 : 0 ≤ z) (hn : z < len) : Q1 P L (.indexAddr T x y) C (.pointer (some ⟨b,o + z.toNat,none⟩)):=by
  have:=Ztm (C:=C) ht hk ex ey h0 hn
  rwa [Zbc] at this
theorem Ztn {T e len : Nat} {cs : List Value} {v : Value} (ht : P.underlying T=some (.array len e)) (hk : Jd P e=some 1) (ha : Za4 P e=some false) (ex : L x=some (.agg cs.toArray)) (ey : L y=some (.int q z)) (h0 : 0 ≤ z) (hn : z < len) (hv : cs[z.toNat]? = some v) : Q1 P L (.index T x y) C v:=
  fun ρ h w' _ dst ty pos af g=>by
    have:=Vs (cs:=cs) ha hv w'
    simp [execOp,h x _ ex,h y _ ey,Instr.index,asIntOf,run_underlying ht,h0,hn,Yz hk,this]
theorem Zi5 {t e k len : Nat} {ps : List (Nat × Operand)} {vs : List (Nat × Value)} {zs cs : List Value} (ht : P.underlying t=some (.array len e)) (hk : Jd P e=some k) (hz : Hb P t=some zs)
    (e : loP L ps=some vs) (hf : Instr.fill (fun i=>some (i * k,k)) zs.toArray vs=some cs.toArray) : Q1 P L (.build t ps.toArray) C (.agg cs.toArray):=
  fun ρ h w' _ dst ty pos af g=>by
    obtain⟨z,hr,hzc⟩:=Zd5 hz w'
    have hp:=Zjk h ps vs e
    have hrun : (Instr.build t (ps.toArray.map fun p=>(p.1,ρ p.2))).run P w' = .ok (.agg cs.toArray) w':=by
      unfold Instr.build
      simp only [Sem.run_bind,hr,Result.andThen_ok,Sem.run_pure,run_underlying ht,Yz hk,hzc]
      simp only [List.map_toArray,hp,hf]
      simp
    simp only [execOp]
    rw [Sem.run_bind,hrun]
    rfl
end
section
variable {P : Program} {w : World} {α : Type} {e : α → List Value} {R : World → List Value → α → Prop} {k : Nat} {v : Value} {A : Option Addr} {ad : Addr} {n c i : Nat} {xs : List α} {x : α} {T : TypeId} {u : Value}
theorem SlR.nilV (h : SlR w k R v xs) (hv : v=.slice A n c) (hA : A.isNone=true) : xs=[]:=by
  subst hv
  obtain⟨A',c',h1,h2,h3,h4,h5⟩:=h
  cases h1
  exact (h4 (by simpa using hA)).1
theorem Zps {L : Operand → Option Value} {C : World → Prop} {x y : Operand} {t t' el : TypeId} {n' c' : Nat} (ht : P.underlying t=some (.slice el)) (ex : L x=some v) (hv : v=.slice A n c) (ey : L y=some (.slice none n' c')) : Q1 P L (.binOp .eql t x y t') C (.bool A.isNone):=Ztd ht (hv ▸ ex) ey
end
def Zkt (ks : List Int) (es : List MapEntry) : Prop:=es.map (·.key)=ks.map (Value.int .i64) ∧ ∀ e ∈ es,e.val=.bool true
def Zik (r : Nat) (ks : List Int) (w : World) : Prop:=∃ es clock,w.heap[r]? = some (.map es clock) ∧ Zkt ks es.toList
def mapR (r : Nat) (ks : List Int) : Rs where
  P w fp:=Zik r ks w ∧ ∀ c,fp c ↔ c=r
  lt h c hc:=by
    obtain⟨es,cl,h1,_⟩:=h.1
    rw [(h.2 c).1 hc]
    exact (Array.getElem?_eq_some_iff.1 h1).1
  loc h hw:=by
    obtain⟨⟨es,cl,h1,h2⟩,h3⟩:=h
    exact⟨⟨es,cl,(hw _ ((h3 _).2 rfl)).trans h1,h2⟩,h3⟩
def Zjr (ks : List Int) (k : Int) : List Int:=if k ∈ ks then ks else ks ++ [k]
theorem Zku {k : Int} {d : IntKind} : ∀ (ks : List Int) (es : List MapEntry) (i : Nat),Zkt ks es → ∃ o,Instr.findNow (.int d) (.int .i64 k) es i=some o ∧ (k ∈ ks → ∃ j,o=some (i + j,.bool true) ∧ ∃ e,es[j]? = some e ∧ e.key=.int .i64 k) ∧ (k ∉ ks → o=none)
  | [],[],i,_=>⟨none,rfl,(fun h=>by cases h),(fun _=>rfl)⟩
  | [],e :: es,i,h=>by simp [Zkt] at h
  | z :: ks,[],i,h=>by simp [Zkt] at h
  | z :: ks,e :: es,i,⟨h1,h2⟩=>by
    simp only [List.map_cons,List.cons.injEq] at h1
    obtain⟨hk,h1⟩:=h1
    have hv:=h2 e List.mem_cons_self
    by_cases hz : k=z
    · subst hz
      refine⟨some (i,.bool true),by simp [Instr.findNow,hk,Instr.sameNow,hv],fun _=>⟨0,rfl,e,rfl,hk⟩,fun h=>absurd List.mem_cons_self h⟩
    · obtain⟨o,ho,g1,g2⟩:=Zku (k:=k) (d:=d) ks es (i + 1) ⟨h1,fun x hx=>h2 x (List.mem_cons_of_mem _ hx)⟩
      have hb : (k == z)=false:=by simpa using hz
      refine⟨o,by simp [Instr.findNow,hk,Instr.sameNow,hb,ho],fun h=>?_,fun h=>g2 fun h'=>h (List.mem_cons_of_mem _ h')⟩
      obtain⟨j,hj,e',h3,h4⟩:=g1 (by simpa [hz] using h)
      exact⟨j + 1,by rw [hj];congr 2;omega,e',by simpa using h3,h4⟩
section
variable {P : Program} {w : World} {mt kt et r : Nat} {ks : List Int} {k : Int} {d : IntKind}
theorem Znx {es : List MapEntry} (hk : P.underlying kt=some (.int d)) (h : Zkt ks es) (w : World) : ∃ o,(Instr.findKey kt (.int .i64 k) es).run P w=.ok o w ∧ (k ∈ ks → ∃ j,o=some (j,.bool true) ∧ ∃ e,es[j]? = some e ∧ e.key=.int .i64 k) ∧ (k ∉ ks → o=none):=by
  obtain⟨o,h1,h2,h3⟩:=Zku (k:=k) (d:=d) ks es 0 h
  refine⟨o,?_,by simpa using h2,h3⟩
  simp [Instr.findKey,run_underlying hk,h1]
theorem Zhj (hk : P.underlying kt=some (.int d)) (b : Bool) (w : World) : (Instr.checkKey b 10000 kt (.int .i64 k)).run P w=.ok () w:=by
  show (Instr.checkKey b (9999 + 1) kt (.int .i64 k)).run P w=_
  rw [Instr.checkKey]
  simp [run_underlying hk]
theorem Zdm {es : Array MapEntry} {cl : Nat} {w : World} (h : w.heap[r]? = some (.map es cl)) : (getObj r).run P w=.ok (.map es cl) w:=by simp [getObj,Sem.run,h]
theorem Zgx {L : Operand → Option Value} {x y : Operand} (hm : P.underlying mt=some (.map kt et)) (hk : P.underlying kt=some (.int d)) (hz : ∀ w,(zeroValue et).run P w=.ok (.bool false) w) (h : Zik r ks w) (ex : L x=some (.map (some r))) (ey : L y=some (.int .i64 k)) :
    Q1 P L (.lookup mt x y false) (Ext w) (.bool (decide (k ∈ ks))):=fun ρ hρ w' hw dst ty pos af g=>by
  obtain⟨es,cl,h1,h2⟩:=h
  have h1' : w'.heap[r]? = some (.map es cl):=(hw.block r (Array.getElem?_eq_some_iff.1 h1).1).trans h1
  obtain⟨o,g1,g2,g3⟩:=Znx (P:=P) (k:=k) hk h2 w'
  have hl : (Instr.lookup mt (.map (some r)) (.int .i64 k) false).run P w' = .ok (.bool (decide (k ∈ ks))) w':=by
    unfold Instr.lookup
    simp only [Sem.run_bind,run_underlying hm,Result.andThen_ok,Zdm h1',Sem.run_pure,Zhj hk,g1]
    by_cases hin : k ∈ ks
    · obtain⟨j,rfl,_⟩:=g2 hin
      simp [hin]
    · rw [g3 hin]
      simp [hin,hz]
  simp [execOp,hρ x _ ex,hρ y _ ey,hl]
theorem Zpt {ks : List Int} {k : Int} (h : k ∈ ks) : Zjr ks k=ks:=if_pos h
theorem Zgy {ks : List Int} {k : Int} (h : k ∉ ks) : Zjr ks k=ks ++ [k]:=if_neg h
theorem Zog (hm : P.underlying mt=some (.map kt et)) (hk : P.underlying kt=some (.int d)) (h : Zik r ks w) :
    ∃ w',(Instr.mapUpdate mt (.map (some r)) (.int .i64 k) (.bool true)).run P w=.ok () w' ∧ Zik r (Zjr ks k) w' ∧ Chg [r] w w':=by
  obtain⟨es,cl,h1,h2⟩:=h
  have hl:=(Array.getElem?_eq_some_iff.1 h1).1
  obtain⟨o,g1,g2,g3⟩:=Znx (P:=P) (k:=k) hk h2 w
  have key : ∀ (ob : Obj),∃ w',(setObj r ob).run P w=.ok () w' ∧ w'.heap[r]? = some ob ∧ Chg [r] w w':=fun ob=>by
    refine⟨{ w with heap:=w.heap.setIfInBounds r ob },?_,by simp [hl],⟨rfl,rfl,rfl,by simp,fun k hk hn=>?_⟩⟩
    · simp [setObj,Sem.run,h1]
      try rfl
    · have : r ≠ k:=fun e=>hn (by rw [e];exact List.mem_singleton.2 rfl)
      simp [Array.getElem?_setIfInBounds_ne this]
  by_cases hin : k ∈ ks
  · obtain⟨j,rfl,e,hj,hke⟩:=g2 hin
    obtain⟨w',k1,k2,k3⟩:=key (.map (es.modify j fun e=>{ e with key:=.int .i64 k,val:=.bool true }) cl)
    refine⟨w',?_,⟨_,_,k2,?_⟩,k3⟩
    · unfold Instr.mapUpdate
      have hj' : es[j]? = some e:=by simpa using hj
      simp only [Sem.run_bind,run_underlying hm,Result.andThen_ok,Zdm h1,Sem.run_pure,Zhj hk,g1]
      simp [hj',hke,Instr.keyThatStays,Instr.sameBits,k1]
    · rw [Zpt hin]
      have hj' : es[j]? = some e:=by simpa using hj
      refine⟨?_,fun x hx=>?_⟩
      · rw [← h2.1]
        apply List.ext_getElem?
        intro i
        simp only [List.getElem?_map,Array.getElem?_toList,Array.getElem?_modify]
        by_cases hi : j=i
        · subst hi;simp [hj',hke]
        · simp [hi]
      · obtain⟨i,hi,rfl⟩:=List.mem_iff_getElem.1 hx
        have hi' : i < es.size:=by simpa using hi
        simp only [Array.getElem_toList,Array.getElem_modify]
        split
        · rfl
        · exact h2.2 _ (by simp)
  · rw [g3 hin] at g1
    obtain⟨w',k1,k2,k3⟩:=key (.map (es.push { key:=.int .i64 k,val:=.bool true,born:=cl }) (cl + 1))
    refine⟨w',?_,⟨_,_,k2,?_⟩,k3⟩
    · unfold Instr.mapUpdate
      simp only [Sem.run_bind,run_underlying hm,Result.andThen_ok,Zdm h1,Sem.run_pure,Zhj hk,g1]
      simp [k1]
    · rw [Zgy hin]
      refine⟨by simp [h2.1],fun x hx=>?_⟩
      rcases (by simpa using hx : x ∈ es.toList ∨ x=_) with hx|rfl
      · exact h2.2 x hx
      · rfl
end
section
variable {P : Program} {ops : Array Oper} {Q : Exit → Act → World → Prop} {rest : List Oper} {a : Act} {n : Nat} {l : List (Nat × Option Value)} {w : World}
  {ty : TypeId} {pos : String} {af : Array Edge} {d mt kt et r : Nat} {ks : List Int} {k : Int} {dk : IntKind}
theorem Zhk (H : Has a n l) (hd : Nat.blt d n=true) (h : ∀ r w',Zik r [] w' → Ext w w' → w.heap.size=r → ∀ a',Has a' n ((d,some (.map (some r))) :: l) → wpList P ops Q rest a' w') :
    wpList P ops Q (⟨some d,.makeMap mt none,ty,pos,af,none⟩ :: rest) a w:=
  Zkl (w':=w.alloc (.map #[] 0)) H (fun ρ hρ=>by
    have : (Instr.makeMap mt none).run P w=.ok (.map (some w.heap.size)) (w.alloc (.map #[] 0)):=rfl
    simp [execOp,this]) hd (h _ _ ⟨#[],0,heap_alloc_new w _,rfl,fun e he=>by cases he⟩ (Ext.alloc' _ _) rfl)
theorem Zey {x y : Operand} (H : Has a n l) (hm : P.underlying mt=some (.map kt et)) (hk : P.underlying kt=some (.int dk)) (hM : Zik r ks w) (ex : lo l x=some (.map (some r))) (ey : lo l y=some (.int .i64 k))
    (h : ∀ w',Zik r (Zjr ks k) w' → Chg [r] w w' → ∀ a',Has a' n l → wpList P ops Q rest a' w') : wpList P ops Q (⟨none,.mapUpdate mt x y (.const (.bool true)),ty,pos,af,none⟩ :: rest) a w:=by
  obtain⟨w',h1,h2,h3⟩:=Zog (P:=P) (k:=k) hm hk hM
  exact Zsu (w':=w') H (fun ρ hρ=>by
    have e3 : ρ (.const (.bool true))=.bool true:=hρ _ _ rfl
    simp [execOp,hρ x _ ex,hρ y _ ey,e3,h1]) rfl (h w' h2 h3)
end
section
variable {fp : Nat → Prop} {w0 w w' : World} {rs : List Rs} {r : Nat} {ks ks' : List Int}
theorem St.map (i : Nat) (h : St fp w0 w rs) (hi : rs[i]? = some (mapR r ks)) : Zik r ks w:=by obtain⟨g,h1,_⟩:=h.get i hi;exact h1
theorem St.newMap (h : St fp w0 w rs) (hb : Zik r ks w') (e : Ext w w') (hl : w.heap.size=r) : St fp w0 w' (mapR r ks :: rs):=h.add (r:=mapR r ks) (g:=fun c=>c=r) e ⟨hb,fun _=>Iff.rfl⟩ fun c hc=>by omega
theorem St.setMap (h : St fp w0 w (mapR r ks :: rs)) (hb : Zik r ks' w') (c : Chg [r] w w') : St fp w0 w' (mapR r ks' :: rs):=
  h.upd fun g hg=>⟨ChgP.of_chg c fun x hx=>(hg.2 x).2 (List.mem_singleton.1 hx),fun x=>x=r,⟨hb,fun _=>Iff.rfl⟩,fun x hx=>.inl ((hg.2 x).2 hx)⟩
end
end Go.Proofs.YtfemfiiagjnhdaaGreatDoor
set_option linter.unusedVariables false
set_option linter.unusedSimpArgs false
set_option linter.unusedSectionVars false
namespace Go.Proofs.YtfemfiiagjnhdaaGreatDoor
open Go Go.RowKit
theorem List.take_set_of_le_aux {β : Type} (c : β) (ys : List β) (i : Nat) (h : i < ys.length) : (ys.set i c).take (i + 1)=ys.take i ++ [c]:=by
  rw [List.take_set,List.take_add_one,List.getElem?_eq_getElem h]
  simp only [Option.toList_some]
  rw [List.set_append_right _ _ (by simp;omega)]
  simp [Nat.min_eq_left (Nat.le_of_lt h)]
section
variable {α : Type} {R : World → List Value → α → Prop} {k : Nat}
def RSl (k : Nat) (e : α → List Value) (w : World) (cs : List Value) (xs : List α) : Prop:=∃ v,cs=[v] ∧ SlR w k (Zi e) v xs
theorem RSl.mono (k : Nat) (e : α → List Value) : Zmg (RSl k e):=by
  intro w w' cs x ag h
  obtain⟨v,rfl,h⟩:=h
  exact⟨v,rfl,h.agr (Zi.mono _) ag⟩
def DIn (k : Nat) (R : World → List Value → α → Prop) : List (List Value) → List α → World → Prop
  | [],[],_=>True
  | cs :: css,x :: xs,w=>(cs.length=k ∧ (∀ u ∈ cs,u.oneCell' = true) ∧ R w cs x) ∧ DIn k R css xs w
  | _,_,_=>False
theorem DIn.len {w : World} : ∀ {css : List (List Value)} {xs : List α},DIn k R css xs w → css.length=xs.length
  | [],[],_=>rfl
  | cs :: css,x :: xs,⟨_,h⟩=>by simp [h.len]
  | [],x :: xs,h=>h.elim
  | cs :: css,[],h=>h.elim
theorem DIn.one {w : World} : ∀ {css : List (List Value)} {xs : List α},DIn k R css xs w → ∀ u ∈ css.flatten,u.oneCell' = true
  | [],[],_,u,hu=>by simp at hu
  | cs :: css,x :: xs,⟨h1,h⟩,u,hu=>by
    rw [List.flatten_cons,List.mem_append] at hu
    exact hu.elim (h1.2.1 u) (h.one u)
  | [],x :: xs,h,_,_=>h.elim
  | cs :: css,[],h,_,_=>h.elim
theorem DIn.at {w : World} : ∀ {css : List (List Value)} {xs : List α} {i : Nat} {x : α},DIn k R css xs w → xs[i]? = some x → ∃ cs,cs.length=k ∧ R w cs x ∧ ∀ j u,cs[j]? = some u → css.flatten[i * k + j]? = some u
  | [],[],i,x,_,hx=>by simp at hx
  | cs :: css,y :: xs,0,x,⟨h1,h⟩,hx=>by
    simp only [List.getElem?_cons_zero,Option.some.injEq] at hx
    subst hx
    refine⟨cs,h1.1,h1.2.2,fun j u hu=>?_⟩
    rw [List.flatten_cons,List.getElem?_append_left (by have:=(List.getElem?_eq_some_iff.1 hu).1;omega)]
    simpa using hu
  | cs :: css,y :: xs,i + 1,x,⟨h1,h⟩,hx=>by
    obtain⟨cs',g1,g2,g3⟩:=h.at (i:=i) (by simpa using hx)
    refine⟨cs',g1,g2,fun j u hu=>?_⟩
    rw [List.flatten_cons,List.getElem?_append_right (by rw [h1.1,Nat.succ_mul];omega),h1.1]
    have e : (i + 1) * k + j - k=i * k + j:=by rw [Nat.succ_mul];omega
    rw [e]
    exact g3 j u hu
  | [],x :: xs,_,_,h,_=>h.elim
  | cs :: css,[],_,_,h,_=>h.elim
theorem DIn.app {w : World} {css' : List (List Value)} {xs' : List α} (h' : DIn k R css' xs' w) : ∀ {css : List (List Value)} {xs : List α},DIn k R css xs w → DIn k R (css ++ css') (xs ++ xs') w
  | [],[],_=>h'
  | c :: css,y :: xs,⟨g,h⟩=>⟨g,DIn.app h' h⟩
  | [],x :: xs,h=>h.elim
  | cs :: css,[],h=>h.elim
theorem DIn.cons {w : World} {cs : List Value} {x : α} {css : List (List Value)} {xs : List α} (h1 : cs.length=k) (h2 : ∀ u ∈ cs,u.oneCell' = true) (h3 : R w cs x) (h : DIn k R css xs w) : DIn k R (cs :: css) (x :: xs) w:=⟨⟨h1,h2,h3⟩,h⟩
theorem DIn.mono (hR : Zmg R) {w w' : World} (e : Agr w w') : ∀ {css : List (List Value)} {xs : List α},DIn k R css xs w → DIn k R css xs w'
  | [],[],_=>trivial
  | c :: css,y :: xs,⟨g,h⟩=>⟨⟨g.1,g.2.1,hR _ _ _ _ e g.2.2⟩,h.mono hR e⟩
  | [],x :: xs,h=>h.elim
  | cs :: css,[],h=>h.elim
theorem SlR.ofCells {w : World} {b cap n : Nat} {css : List (List Value)} {xs : List α} (hc : ∀ j u,css.flatten[j]? = some u → w.cell? ⟨b,j,none⟩=some u) (hd : DIn k R css xs w) (hn : n=xs.length) (hcap : n ≤ cap) (hm : cap ≤ maxLen) : SlR w k R (.slice (some ⟨b,0,none⟩) n cap) xs:=by
  subst hn
  refine⟨some ⟨b,0,none⟩,cap,rfl,hcap,hm,(fun h=>by cases h),fun ad h i x hx=>?_⟩
  cases h
  obtain⟨cs,h1,h2,h3⟩:=hd.at hx
  exact⟨cs,h1,h2,fun j u hu=>by rw [Gl];exact hc _ u (h3 j u hu)⟩
theorem SlR.ofBlk {w : World} {b n T : Nat} (css : List (List Value)) (xs : List α) (h : Blk w b css.flatten T) (hd : DIn k R css xs w) (hn : n=xs.length) (hm : n ≤ maxLen) : SlR w k R (.slice (some ⟨b,0,none⟩) n n) xs:=
  SlR.ofCells (fun j u hu=>(h.cell j).trans hu) hd hn (Nat.le_refl _) hm
theorem Own.slD {w : World} {E n : Nat} {v : Value} {css : List (List Value)} {xs : List α} (h : Own w E k v n css.flatten) (hd : DIn k R css xs w) (hn : n=xs.length) : SlR w k R v xs:=by
  rcases id h with ⟨rfl,h0,h1⟩ | ⟨b,cap,cs,rfl,hB,h2,h3,h4,h5,h6⟩
  · cases xs with
    | nil=>exact SlR.nil w k R
    | cons x xs=>simp at hn;omega
  · exact SlR.ofCells (fun j u hu=>h.cell hu) hd hn h2 h3
theorem ldElH {P : Program} {w : World} {T i : Nat} {ad : Addr} {v : Value} (ht : Za4 P T=some false) (hc : ∀ j u,[v][j]? = some u → w.cell? (ad.add (i * 1 + j))=some u) : LdX P T w (ad.add (i * 1)) v:=LdX.one ht (hc 0 v rfl)
theorem fillA {place : Nat → Option (Nat × Nat)} {i off : Nat} {v : Value} {zs ds : List Value} {n : Nat} {rest : List (Nat × Value)} (h : v.cells=ds.toArray) (hn : ds.length=n) (hp : place i=some (off,n)) (hl : off + n ≤ zs.length) :
    Instr.fill place zs.toArray ((i,v) :: rest)=Instr.fill place (zs.take off ++ ds ++ zs.drop (off + n)).toArray rest:=by
  subst hn
  rw [Instr.fill,hp]
  simp only [h]
  have h1 : ¬ (ds.toArray.size ≠ ds.length || decide (off + ds.toArray.size > zs.toArray.size))=true:=by simp;omega
  rw [if_neg h1]
  congr 1
  have key : ∀ (es : List Value) (j : Nat) (ys : List Value),off + j + es.length ≤ ys.length → (es.zipIdx j).foldl (fun cs (c,j)=>cs.setIfInBounds (off + j) c) ys.toArray=(ys.take (off + j) ++ es ++ ys.drop (off + j + es.length)).toArray:=by
    intro es
    induction es with
    | nil=>intro j ys _;simp
    | cons c es ih=>
      intro j ys hj
      simp only [List.zipIdx_cons,List.foldl_cons,List.setIfInBounds_toArray]
      rw [ih (j + 1) _ (by simp at hj ⊢;omega)]
      simp only [List.length_cons] at hj
      congr 1
      have e1 : off + (j + 1)=off + j + 1:=by omega
      rw [e1,List.take_set_of_le_aux c ys (off + j) (by omega)]
      rw [List.drop_set_of_lt (by omega)]
      simp only [List.append_assoc,List.cons_append,List.nil_append,List.length_cons]
      have e2 : off + j + 1 + es.length=off + j + (es.length + 1):=by omega
      rw [e2]
  have:=key ds 0 zs (by simpa using hl)
  simpa using this
def deepR (E k : Nat) (R : World → List Value → α → Prop) (v : Value) (xs : List α) : Rs:=exR fun css : List (List Value)=>starR [ownR E k v xs.length css.flatten,anyR (DIn k R css xs)]
theorem Src.blk {w : World} {b m c T : Nat} {cs : List Value} (h : Blk w b cs T) (hl : cs.length=m * k) : Src w k (.slice (some ⟨b,0,none⟩) m c) m cs:=.inr (.inl ⟨_,_,rfl,hl,fun j u hu=>by rw [Gl];exact (h.cell j).trans hu⟩)
end
section
variable {α : Type} {R : World → List Value → α → Prop} {E k n : Nat} {v : Value} {xs : List α} {x : α} {fp : Nat → Prop} {w0 w w' : World} {rs : List Rs}
theorem deepR.sl {g : Nat → Prop} (h : (deepR E k R v xs).P w g) : SlR w k R v xs:=by
  obtain⟨css,⟨f1,h1,h2,f2,h3,h4,_⟩,_⟩:=h
  exact h1.1.slD h3.now rfl
theorem St.deepSl (i : Nat) (h : St fp w0 w rs) (hi : rs[i]? = some (deepR E k R v xs)) : SlR w k R v xs:=by
  obtain⟨g,h1⟩:=h.get i hi
  exact deepR.sl h1
theorem St.deep (h : St fp w0 w (deepR E k R v xs :: rs)) : ∃ css,St fp w0 w (ownR E k v xs.length css.flatten :: anyR (DIn k R css xs) :: rs):=by
  obtain⟨css,h⟩:=h.ex
  exact⟨css,h.star⟩
theorem St.mkDeep {css : List (List Value)} (h : St fp w0 w (ownR E k v xs.length css.flatten :: anyR (DIn k R css xs) :: rs)) : St fp w0 w (deepR E k R v xs :: rs):=
  St.mkEx (f:=fun css : List (List Value)=>starR [ownR E k v xs.length css.flatten,anyR (DIn k R css xs)]) css (h.fold [_,_])
theorem St.deepNil (E k : Nat) (R : World → List Value → α → Prop) (h : St fp w0 w rs) : St fp w0 w (deepR E k R (.slice none 0 0) [] :: rs):=
  St.mkDeep (css:=[]) ((h.trivAny (F:=DIn k R [] []) fun _=>trivial).nilOwn E k)
theorem St.litDeep {b T : Nat} (css : List (List Value)) (xs : List α) (h : St fp w0 w (blkR b css.flatten T :: anyR (DIn k R css xs) :: rs)) (hn : n=xs.length) (hm : xs.length ≤ maxLen) (hl : css.flatten.length=xs.length * k) : St fp w0 w (deepR T k R (.slice (some ⟨b,0,none⟩) n n) xs :: rs):=by
  subst hn
  exact St.mkDeep (h.blkOwn xs.length k hl hm)
theorem Zkv {z0 : α} {zc : List Value} (hk : zc.length=k) (h1 : ∀ u ∈ zc,u.oneCell' = true) (hz : ∀ w,R w zc z0) : ∀ (n : Nat) (w : World),DIn k R (List.replicate n zc) (List.replicate n z0) w
  | 0,_=>trivial
  | n + 1,w=>⟨⟨hk,h1,hz w⟩,Zkv hk h1 hz n w⟩
end
section
variable {P : Program} {ops : Array Oper} {Q : Exit → Act → World → Prop} {rest : List Oper} {a : Act} {n : Nat} {l : List (Nat × Option Value)} {w : World}
  {ty : TypeId} {pos : String} {af : Array Edge} {d : Nat} {v u : Value}
variable {α : Type} {R : World → List Value → α → Prop} {E k m bytes : Nat} {z : List Value} {xs ys : List α} {css : List (List Value)} {fp : Nat → Prop} {w0 : World} {rs : List Rs}
end
end Go.Proofs.YtfemfiiagjnhdaaGreatDoor
set_option linter.unusedVariables false
set_option linter.unusedSimpArgs false
set_option linter.unusedSectionVars false
namespace Go.Proofs.YtfemfiiagjnhdaaGreatDoor
open Go Go.RowKit
section
variable {fp : Nat → Prop} {w0 w w' : World} {rs rows : List Rs} {r : Rs} {i : Nat}
end
section
variable {β : Type}
end
section
variable {α : Type} {El : List Value → α → Rs} {R : World → List Value → α → Prop} {k : Nat}
variable {fp : Nat → Prop} {w0 w w' : World} {rs : List Rs} {T i : Nat} {v : Value} {xs : List α} {x x' : α} {css : List (List Value)} {cs cs' : List Value}
end
section
variable {α : Type} {e : α → List Value} {E k T : Nat} {fp : Nat → Prop} {w0 w w' : World} {rs : List Rs} {v u u' : Value} {xss : List (List α)} {xs ys : List α} {css : List (List Value)} {i : Nat}
end
section
variable {P : Program} {ops : Array Oper} {Q : Exit → Act → World → Prop} {rest : List Oper} {a : Act} {n : Nat} {l : List (Nat × Option Value)} {w : World}
  {ty : TypeId} {pos : String} {af : Array Edge} {d : Nat} {v u : Value}
variable {E k c i : Nat} {A : Option Addr} {ad : Addr} {xs : List Value} {x y : Operand} {t m n0 : Nat}
end
section
variable {P : Program} {ops : Array Oper} {Q : Exit → Act → World → Prop} {a : Act} {n : Nat} {l : List (Nat × Option Value)} {w : World} {k0 fuel h0 : Nat} {listed : Array Bool} {B : List Nat}
  {ty : TypeId} {pos : String} {af : Array Edge} {d : Nat} {v u : Value}
variable {E k c i : Nat} {A : Option Addr} {ad : Addr} {xs : List Value} {x y : Operand} {t m n0 : Nat}
theorem Zrh {α : Type} {e : α → List Value} {xs ys : List α} (j : Nat) {t' bytes : Nat} {z : List Value} {d' : TypeDesc} (H : Has a n l) (hi : ops[j]? = some ⟨some d,.call { callee:=.builtin .append,args:=#[x,y],argTypes:=#[t,t'] },ty,pos,af,none⟩) (ex : lo l x=some v) (ey : lo l y=some u)
    (ht : P.underlying t=some (.slice E)) (ht' : P.underlying t' = some d') (hd' : ∀ q,d' ≠ .int q) (hE : ElemOk P E k bytes z) (hv : Own w E k v xs.length (xs.flatMap e)) (hx : Src w k u ys.length (ys.flatMap e)) (h1 : ∀ z,∀ c ∈ e z,c.oneCell' = true)
    (hb : (xs.length + ys.length) * bytes ≤ 140737488355328) (h63 : xs.length + ys.length ≤ maxLen) (hd : Nat.blt d n=true) (hr : Region.ready .any ops listed=[j]) (hB : (∀ b ∈ Ga v,b < h0 → b ∈ B) ∨ act k0 (listed.setIfInBounds j true)=false)
    (h : ∀ v' w',Own w' E k v' (xs ++ ys).length ((xs ++ ys).flatMap e) → Chg (Ga v) w w' → (Ga v' = Ga v ∨ ∃ b,Ga v' = [b] ∧ w.heap.size ≤ b) → ∀ a',Has a' n ((d,some v') :: l) → wpK P ops Q k0 (ChgF B h0 w') fuel (listed.setIfInBounds j true) a' w') :
    wpK P ops Q k0 (ChgF B h0 w) (fuel + 1) listed a w:=
  Znr j H hi ex ey ht ht' hd' hE hv hx (Znt h1 ys) hb h63 hd hr hB fun v' w' hO hC hb _ a' H'=>h v' w' (by rw [List.length_append,List.flatMap_append];exact hO) hC hb a' H'
end
def kB (m : Nat) (ps : List Nat) (h0 : Nat) : List Nat:=(List.range h0).filter fun k=>decide (m ≤ k ∧ k ∉ ps)
theorem Zi6 {m h0 b : Nat} {ps : List Nat} (h1 : b < h0) (h2 : m ≤ b) (h3 : b ∉ ps) : b ∈ kB m ps h0:=by
  simp [kB,h1,h2,h3]
theorem Zi7 {m h0 : Nat} {ps : List Nat} : ∀ b ∈ kB m ps h0,m ≤ b:=by
  intro b hb
  simp [kB] at hb
  exact hb.2.1
theorem Zcj {b : Nat} : b ∉ ([] : List Nat):=by simp
theorem Zck {b c : Nat} {ps : List Nat} (h : b ≠ c) (h2 : b ∉ ps) : b ∉ c :: ps:=by simp [h,h2]
section
variable {fp : Nat → Prop} {w0 w : World} {rs : List Rs} {i j b E k n E2 k2 n2 T : Nat} {v v2 : Value} {xs xs2 cs : List Value}
end
section
variable {P : Program} {t : TypeId} {w : World} {ad : Addr} {v : Value} {B : List Nat} {h0 o n c b : Nat} {A : Option Addr} {u : Value} {cs : List Value} {T : TypeId}
end
section
variable {P : Program} {ops : Array Oper} {Q : Exit → Act → World → Prop} {rest : List Oper} {a : Act} {n : Nat} {l : List (Nat × Option Value)} {w : World}
  {ty : TypeId} {pos : String} {af : Array Edge} {d : Nat} {v u r : Value}
variable {α : Type} {e : α → List Value} {E E2 k2 bytes : Nat} {z : List Value} {xss : List (List α)} {ys : List α} {fp : Nat → Prop} {w0 : World} {rs : List Rs}
end
section
variable {P : Program} {ops : Array Oper} {Q : Exit → Act → World → Prop} {a : Act} {n : Nat} {l : List (Nat × Option Value)} {w : World} {k0 fuel h0 : Nat} {listed : Array Bool} {B : List Nat}
  {ty : TypeId} {pos : String} {af : Array Edge} {d : Nat} {v u : Value}
variable {α : Type} {R : World → List Value → α → Prop} {E k m bytes : Nat} {z : List Value} {xs ys : List α} {css : List (List Value)} {fp : Nat → Prop} {w0 : World} {rs : List Rs}
theorem k_appD {x y : Operand} {t t' : Nat} {d' : TypeDesc} (j : Nat) (hS : St fp w0 w (deepR E k R v xs :: anyR (DIn k R css ys) :: rs)) (H : Has a n l) (hi : ops[j]? = some ⟨some d,.call { callee:=.builtin .append,args:=#[x,y],argTypes:=#[t,t'] },ty,pos,af,none⟩) (ex : lo l x=some v) (ey : lo l y=some u)
    (ht : P.underlying t=some (.slice E)) (ht' : P.underlying t' = some d') (hd' : ∀ q,d' ≠ .int q) (hE : ElemOk P E k bytes z) (hx : Src w k u ys.length css.flatten)
    (hb : (xs.length + ys.length) * bytes ≤ 140737488355328) (h63 : xs.length + ys.length ≤ maxLen) (hd : Nat.blt d n=true) (hr : Region.ready .any ops listed=[j])
    (hB : ∀ css0,St fp w0 w (ownR E k v xs.length css0 :: anyR (DIn k R css ys) :: rs) → (∀ b ∈ Ga v,b < h0 → b ∈ B) ∨ act k0 (listed.setIfInBounds j true)=false)
    (h : ∀ v' w',St fp w0 w' (deepR E k R v' (xs ++ ys) :: rs) → w.heap.size ≤ w'.heap.size → ∀ a',Has a' n ((d,some v') :: l) → wpK P ops Q k0 (ChgF B h0 w') fuel (listed.setIfInBounds j true) a' w') :
    wpK P ops Q k0 (ChgF B h0 w) (fuel + 1) listed a w:=by
  obtain⟨css0,hS1⟩:=hS.deep
  have hd2 : DIn k R css ys w:=hS1.any 2 rfl
  refine Znr j H hi ex ey ht ht' hd' hE (hS1.own 0 rfl) hx hd2.one hb h63 hd hr (hB _ ((hS1.pick 1 rfl).tail)) fun v' w' hO hC hbl _ a' H'=>?_
  have hS2:=hS1.setOwn hO hC hbl
  have hS3:=(St.pick 1 hS2 rfl)
  dsimp only [List.eraseIdx] at hS3
  have hS4:=(St.pick 2 hS3 rfl)
  dsimp only [List.eraseIdx] at hS4
  have hS5:=hS4.anyAnd.anyMono (G:=DIn k R (css0 ++ css) (xs ++ ys)) fun w'' hw=>DIn.app hw.1 hw.2
  have hS6:=(St.pick 1 hS5 rfl)
  dsimp only [List.eraseIdx] at hS6
  refine h v' w' (St.mkDeep (css:=css0 ++ css) ?_) hC.size a' H'
  rw [List.length_append,List.flatten_append]
  exact hS6
theorem k_four (i j m o : Nat) (hr : Region.ready .any ops listed=[i,j,m,o]) (h1 : Zkk P ops Q k0 (ChgF B h0 w) fuel listed i a w) (h2 : Zkk P ops Q k0 (ChgF B h0 w) fuel listed j a w) (h3 : Zkk P ops Q k0 (ChgF B h0 w) fuel listed m a w) (h4 : Zkk P ops Q k0 (ChgF B h0 w) fuel listed o a w) : wpK P ops Q k0 (ChgF B h0 w) (fuel + 1) listed a w:=by
  refine⟨fun h=>(by rw [hr] at h;cases h),fun q hq=>?_⟩
  rw [hr] at hq
  simp only [List.mem_cons,List.not_mem_nil,or_false] at hq
  rcases hq with rfl|rfl|rfl|rfl
  · exact h1
  · exact h2
  · exact h3
  · exact h4
theorem Qy (i : Nat) (hr : Region.ready .any ops listed=[i]) (h : Zkk P ops Q k0 (ChgF B h0 w) fuel listed i a w) : wpK P ops Q k0 (ChgF B h0 w) (fuel + 1) listed a w:=by
  refine⟨fun h=>(by rw [hr] at h;cases h),fun q hq=>?_⟩
  rw [hr] at hq
  have:=List.mem_singleton.1 hq
  subst this
  exact h
theorem Zri (i : Nat) {f : FuncId} {x : Operand} {xs : List Operand} {tys : Array TypeId} {vs first cap : List Value} {Φ : Value → World → Prop} (H : Has a n l)
    (hi : ops[i]? = some ⟨some d,.call { callee:=.value x,args:=xs.toArray,argTypes:=tys },ty,pos,af,none⟩) (ex : lo l x=some (.func (.func f) first.toArray cap.toArray)) (e : Zji l xs=some vs) (hf : Zq P f=true)
    (hc : Calls P f (first ++ vs ++ cap).toArray w (Ret Φ)) (hd : Nat.blt d n=true) (hΦ : ∀ v w',Φ v w' → Go' B k0 h0 (listed.setIfInBounds i true) w w')
    (h : ∀ v w',Φ v w' → ∀ a',Has a' n ((d,some v) :: l) → wpK P ops Q k0 (ChgF B h0 w') fuel (listed.setIfInBounds i true) a' w') : Zkk P ops Q k0 (ChgF B h0 w) fuel listed i a w:=by
  refine Zpe i hi rfl ?_
  refine Zfz (f:=f) (args:=(first ++ vs ++ cap).toArray) (by
    have:=Zce H.eval xs vs e
    simp [execOp,resolve,H.eval x _ ex,Deferred.ofValue,invoke,Yf hf,this]) hc fun v w' hv=>?_
  exact⟨hΦ v w' hv,h v w' hv _ (H.put d v hd)⟩
theorem Uk {β : Type} {e : β → List Value} {z0 : β} (i : Nat) {x y : Operand} {T : Nat} {q1 q2 : IntKind} {L C : Nat} (H : Has a n l) (hi : ops[i]? = some ⟨some d,.makeSlice T x y,ty,pos,af,none⟩) (ht : P.underlying T=some (.slice E)) (hE : ElemOk P E k bytes z) (hz : e z0=z) (ex : lo l x=some (.int q1 L)) (ey : lo l y=some (.int q2 C)) (hLC : L ≤ C)
    (hb : C * bytes ≤ 140737488355328) (hm : C ≤ maxLen) (hd : Nat.blt d n=true)
    (h : ∀ b w',Own w' E k (.slice (some ⟨b,0,none⟩) L C) (List.replicate L z0).length ((List.replicate L z0).flatMap e) → Ext w w' → w.heap.size=b → ∀ a',Has a' n ((d,some (.slice (some ⟨b,0,none⟩) L C)) :: l) → wpK P ops Q k0 (ChgF B h0 w') fuel (listed.setIfInBounds i true) a' w') :
    Zkk P ops Q k0 (ChgF B h0 w) fuel listed i a w:=
  Hf i H hi ht hE ex ey hLC hb hm hd fun b w' hO he hs a' H'=>h b w' (by rw [List.length_replicate,List.flatMap,List.map_replicate,hz];exact hO) he hs a' H'
end
section
variable {α : Type} {R : World → List Value → α → Prop} {fp : Nat → Prop} {w0 w : World} {rs : List Rs} {E k n : Nat} {v : Value}
theorem St.mkDeep0 {zc : List Value} {z0 : α} (hk : zc.length=k) (h1 : ∀ u ∈ zc,u.oneCell' = true) (hz : ∀ w,R w zc z0) (h : St fp w0 w (ownR E k v n (List.replicate n zc).flatten :: rs)) : St fp w0 w (deepR E k R v (List.replicate n z0) :: rs):=by
  refine St.mkDeep (css:=List.replicate n zc) ?_
  rw [List.length_replicate]
  exact (h.trivAny (F:=DIn k R (List.replicate n zc) (List.replicate n z0)) (Zkv hk h1 hz n)).pick 1 rfl
theorem St.pureAt (i : Nat) {p : Prop} (h : St fp w0 w rs) (hi : rs[i]? = some (pureR p)) : p:=by
  obtain⟨g,h1⟩:=h.get i hi
  exact h1.1
end
end Go.Proofs.YtfemfiiagjnhdaaGreatDoor
set_option linter.unusedVariables false
set_option linter.unusedSimpArgs false
set_option linter.unusedSectionVars false
namespace Go.Proofs.YtfemfiiagjnhdaaGreatDoor
open Go Go.RowKit
section
variable {P : Program} {ops : Array Oper} {Q : Exit → Act → World → Prop} {rest : List Oper} {n : Nat} {l : List (Nat × Option Value)} {lc : List (Nat × (Nat × Bool) × Value)} {w : World}
  {op : Op} {ty : TypeId} {pos : String} {af : Array Edge} {d : Nat} {v : Value}
theorem W_q (q : Q1 P (lo l) op (Ext w) v) (hd : Nat.blt d n=true) (h : ∀ a',Has a' n ((d,some v) :: l) → wpList P ops Q rest a' w) : ∀ a,Has a n l → wpList P ops Q (⟨some d,op,ty,pos,af,none⟩ :: rest) a w:=
  fun a H=>n_q H q hd h
theorem Zz {j t : Nat} {want b : Bool} (hj : (ops[j]?).bind (·.dst)=some t) (ht : lk l t=some (.bool b)) (hb : b ≠ want) (hd : Nat.blt d n=true) (h : ∀ a',Has a' n ((d,some undef) :: l) → wpList P ops Q rest a' w) :
    ∀ a,Has a n l → wpList P ops Q (⟨some d,op,ty,pos,af,some (j,want)⟩ :: rest) a w:=fun a H=>Tp H hj ht hb hd h
theorem Zcl {j t : Nat} {want : Bool} (hj : (ops[j]?).bind (·.dst)=some t) (ht : lk l t=some undef) (hd : Nat.blt d n=true) (h : ∀ a',Has a' n ((d,some undef) :: l) → wpList P ops Q rest a' w) :
    ∀ a,Has a n l → wpList P ops Q (⟨some d,op,ty,pos,af,some (j,want)⟩ :: rest) a w:=fun a H=>Zti H hj ht hd h
theorem Zy {dst : Option Nat} {j t : Nat} {want : Bool} (hj : (ops[j]?).bind (·.dst)=some t) (ht : lk l t=some (.bool want)) (h : ∀ a,Has a n l → wpList P ops Q (⟨dst,op,ty,pos,af,none⟩ :: rest) a w) :
    ∀ a,Has a n l → wpList P ops Q (⟨dst,op,ty,pos,af,some (j,want)⟩ :: rest) a w:=fun a H=>Kq H hj ht (h a H)
theorem V_q (q : Q1 P (lo l) op (Ext w) v) (hd : Nat.blt d n=true) (hk : okc ops d lc=true) (h : ∀ a',HasC ops a' n ((d,some v) :: l) lc → wpList P ops Q rest a' w) :
    ∀ a,HasC ops a n l lc → wpList P ops Q (⟨some d,op,ty,pos,af,none⟩ :: rest) a w:=fun a H=>Zfx H q hd hk h
theorem V_g {g : Nat × Bool} (q : Q1 P (loc l lc g) op (Ext w) v) (hd : Nat.blt d n=true) (hk : okc ops d lc=true)
    (hg : (match (ops[g.1]?).bind (·.dst) with | some t=>!(Nat.beq t d) | none=>true)=true) (h : ∀ a',HasC ops a' n ((d,none) :: l) ((d,g,v) :: lc) → wpList P ops Q rest a' w) :
    ∀ a,HasC ops a n l lc → wpList P ops Q (⟨some d,op,ty,pos,af,some g⟩ :: rest) a w:=fun a H=>Zq3 H q hd hk hg h
theorem Zrj {j t r : Nat} {b u : Bool} (hj : (ops[j]?).bind (·.dst)=some t) (ht : lk l t=some (.bool b)) (hr : loc l lc (j,true) (.tmp r)=some (.bool u)) (hd : Nat.blt d n=true) (hk : okc ops d lc=true)
    (h : ∀ a',HasC ops a' n ((d,some (.bool (b && u))) :: l) lc → wpList P ops Q rest a' w) :
    ∀ a,HasC ops a n l lc → wpList P ops Q (⟨some d,.pick (.tmp t) (.tmp r) (.const (.bool false)),ty,pos,af,none⟩ :: rest) a w:=fun a H=>Zst H hj ht hr hd hk h
theorem Zml {j t r : Nat} {b u : Bool} (hj : (ops[j]?).bind (·.dst)=some t) (ht : lk l t=some (.bool b)) (hr : loc l lc (j,false) (.tmp r)=some (.bool u)) (hd : Nat.blt d n=true) (hk : okc ops d lc=true)
    (h : ∀ a',HasC ops a' n ((d,some (.bool (b || u))) :: l) lc → wpList P ops Q rest a' w) :
    ∀ a,HasC ops a n l lc → wpList P ops Q (⟨some d,.pick (.tmp t) (.const (.bool true)) (.tmp r),ty,pos,af,none⟩ :: rest) a w:=fun a H=>Zta H hj ht hr hd hk h
end
end Go.Proofs.YtfemfiiagjnhdaaGreatDoor
set_option linter.unusedVariables false
set_option linter.unusedSimpArgs false
set_option linter.unusedSectionVars false
namespace Go.Proofs.YtfemfiiagjnhdaaGreatDoor
open Go Go.RowKit
section
variable {P : Program} {ops : Array Oper} {Q : Exit → Act → World → Prop} {a : Act} {n : Nat} {l : List (Nat × Option Value)} {w : World} {B : List Nat} {k0 h0 fuel : Nat} {listed : Array Bool}
theorem Zpu (H0 : Has a n l) (fuel' : Nat) (i1 i2 i3 i4 : Nat) (L : List (Nat × Value)) (R : World → Prop)
    (h1 : (∀ l' a w,Has a n l' → Sub L l' → R w → wpK P ops Q k0 (ChgF B h0 w) fuel' ((((listed.setIfInBounds i1 true).setIfInBounds i2 true).setIfInBounds i3 true).setIfInBounds i4 true) a w) → wpK P ops Q k0 (ChgF B h0 w) fuel listed a w)
    (h2 : ∀ a w,Has a n (ent L) → R w → wpK P ops Q k0 (ChgF B h0 w) fuel' ((((listed.setIfInBounds i1 true).setIfInBounds i2 true).setIfInBounds i3 true).setIfInBounds i4 true) a w) : wpK P ops Q k0 (ChgF B h0 w) fuel listed a w:=
  h1 fun l' a w H hs hR=>h2 a w (H.sub _ hs) hR
theorem k_mid6 (H0 : Has a n l) (fuel' : Nat) (i1 i2 i3 i4 i5 i6 : Nat) (L : List (Nat × Value)) (R : World → Prop)
    (h1 : (∀ l' a w,Has a n l' → Sub L l' → R w → wpK P ops Q k0 (ChgF B h0 w) fuel' ((((((listed.setIfInBounds i1 true).setIfInBounds i2 true).setIfInBounds i3 true).setIfInBounds i4 true).setIfInBounds i5 true).setIfInBounds i6 true) a w) → wpK P ops Q k0 (ChgF B h0 w) fuel listed a w)
    (h2 : ∀ a w,Has a n (ent L) → R w → wpK P ops Q k0 (ChgF B h0 w) fuel' ((((((listed.setIfInBounds i1 true).setIfInBounds i2 true).setIfInBounds i3 true).setIfInBounds i4 true).setIfInBounds i5 true).setIfInBounds i6 true) a w) : wpK P ops Q k0 (ChgF B h0 w) fuel listed a w:=
  h1 fun l' a w H hs hR=>h2 a w (H.sub _ hs) hR
theorem k_mid7 (H0 : Has a n l) (fuel' : Nat) (i1 i2 i3 i4 i5 i6 i7 : Nat) (L : List (Nat × Value)) (R : World → Prop)
    (h1 : (∀ l' a w,Has a n l' → Sub L l' → R w → wpK P ops Q k0 (ChgF B h0 w) fuel' (((((((listed.setIfInBounds i1 true).setIfInBounds i2 true).setIfInBounds i3 true).setIfInBounds i4 true).setIfInBounds i5 true).setIfInBounds i6 true).setIfInBounds i7 true) a w) → wpK P ops Q k0 (ChgF B h0 w) fuel listed a w)
    (h2 : ∀ a w,Has a n (ent L) → R w → wpK P ops Q k0 (ChgF B h0 w) fuel' (((((((listed.setIfInBounds i1 true).setIfInBounds i2 true).setIfInBounds i3 true).setIfInBounds i4 true).setIfInBounds i5 true).setIfInBounds i6 true).setIfInBounds i7 true) a w) : wpK P ops Q k0 (ChgF B h0 w) fuel listed a w:=
  h1 fun l' a w H hs hR=>h2 a w (H.sub _ hs) hR
theorem Zkw (H0 : Has a n l) (fuel' : Nat) (i1 i2 i3 i4 i5 i6 i7 i8 : Nat) (L : List (Nat × Value)) (R : World → Prop)
    (h1 : (∀ l' a w,Has a n l' → Sub L l' → R w → wpK P ops Q k0 (ChgF B h0 w) fuel' ((((((((listed.setIfInBounds i1 true).setIfInBounds i2 true).setIfInBounds i3 true).setIfInBounds i4 true).setIfInBounds i5 true).setIfInBounds i6 true).setIfInBounds i7 true).setIfInBounds i8 true) a w) → wpK P ops Q k0 (ChgF B h0 w) fuel listed a w)
    (h2 : ∀ a w,Has a n (ent L) → R w → wpK P ops Q k0 (ChgF B h0 w) fuel' ((((((((listed.setIfInBounds i1 true).setIfInBounds i2 true).setIfInBounds i3 true).setIfInBounds i4 true).setIfInBounds i5 true).setIfInBounds i6 true).setIfInBounds i7 true).setIfInBounds i8 true) a w) : wpK P ops Q k0 (ChgF B h0 w) fuel listed a w:=
  h1 fun l' a w H hs hR=>h2 a w (H.sub _ hs) hR
end
section
variable {fp : Nat → Prop} {w0 w : World} {rs : List Rs} {r0 r1 r2 r3 r4 r5 r6 r7 r8 r9 r10 r11 : Rs}
theorem St.tk0 (h : St fp w0 w (rs)) : St fp w0 w []:=h.take 0
theorem St.tk1 (h : St fp w0 w (r0 :: rs)) : St fp w0 w [r0]:=h.take 1
theorem St.tk2 (h : St fp w0 w (r0 :: r1 :: rs)) : St fp w0 w [r0,r1]:=h.take 2
theorem St.tk3 (h : St fp w0 w (r0 :: r1 :: r2 :: rs)) : St fp w0 w [r0,r1,r2]:=h.take 3
theorem St.tk4 (h : St fp w0 w (r0 :: r1 :: r2 :: r3 :: rs)) : St fp w0 w [r0,r1,r2,r3]:=h.take 4
theorem St.tk5 (h : St fp w0 w (r0 :: r1 :: r2 :: r3 :: r4 :: rs)) : St fp w0 w [r0,r1,r2,r3,r4]:=h.take 5
theorem St.tk6 (h : St fp w0 w (r0 :: r1 :: r2 :: r3 :: r4 :: r5 :: rs)) : St fp w0 w [r0,r1,r2,r3,r4,r5]:=h.take 6
theorem St.tk7 (h : St fp w0 w (r0 :: r1 :: r2 :: r3 :: r4 :: r5 :: r6 :: rs)) : St fp w0 w [r0,r1,r2,r3,r4,r5,r6]:=h.take 7
theorem St.tk8 (h : St fp w0 w (r0 :: r1 :: r2 :: r3 :: r4 :: r5 :: r6 :: r7 :: rs)) : St fp w0 w [r0,r1,r2,r3,r4,r5,r6,r7]:=h.take 8
theorem St.tk9 (h : St fp w0 w (r0 :: r1 :: r2 :: r3 :: r4 :: r5 :: r6 :: r7 :: r8 :: rs)) : St fp w0 w [r0,r1,r2,r3,r4,r5,r6,r7,r8]:=h.take 9
theorem St.pk1 (h : St fp w0 w (r0 :: r1 :: rs)) : St fp w0 w (r1 :: r0 :: rs):=h.pick 1 rfl
theorem St.pk2 (h : St fp w0 w (r0 :: r1 :: r2 :: rs)) : St fp w0 w (r2 :: r0 :: r1 :: rs):=h.pick 2 rfl
theorem St.pk3 (h : St fp w0 w (r0 :: r1 :: r2 :: r3 :: rs)) : St fp w0 w (r3 :: r0 :: r1 :: r2 :: rs):=h.pick 3 rfl
theorem St.pk4 (h : St fp w0 w (r0 :: r1 :: r2 :: r3 :: r4 :: rs)) : St fp w0 w (r4 :: r0 :: r1 :: r2 :: r3 :: rs):=h.pick 4 rfl
theorem St.pk5 (h : St fp w0 w (r0 :: r1 :: r2 :: r3 :: r4 :: r5 :: rs)) : St fp w0 w (r5 :: r0 :: r1 :: r2 :: r3 :: r4 :: rs):=h.pick 5 rfl
theorem St.pk6 (h : St fp w0 w (r0 :: r1 :: r2 :: r3 :: r4 :: r5 :: r6 :: rs)) : St fp w0 w (r6 :: r0 :: r1 :: r2 :: r3 :: r4 :: r5 :: rs):=h.pick 6 rfl
theorem St.pk7 (h : St fp w0 w (r0 :: r1 :: r2 :: r3 :: r4 :: r5 :: r6 :: r7 :: rs)) : St fp w0 w (r7 :: r0 :: r1 :: r2 :: r3 :: r4 :: r5 :: r6 :: rs):=h.pick 7 rfl
theorem St.pk8 (h : St fp w0 w (r0 :: r1 :: r2 :: r3 :: r4 :: r5 :: r6 :: r7 :: r8 :: rs)) : St fp w0 w (r8 :: r0 :: r1 :: r2 :: r3 :: r4 :: r5 :: r6 :: r7 :: rs):=h.pick 8 rfl
theorem St.pk9 (h : St fp w0 w (r0 :: r1 :: r2 :: r3 :: r4 :: r5 :: r6 :: r7 :: r8 :: r9 :: rs)) : St fp w0 w (r9 :: r0 :: r1 :: r2 :: r3 :: r4 :: r5 :: r6 :: r7 :: r8 :: rs):=h.pick 9 rfl
theorem St.pk10 (h : St fp w0 w (r0 :: r1 :: r2 :: r3 :: r4 :: r5 :: r6 :: r7 :: r8 :: r9 :: r10 :: rs)) : St fp w0 w (r10 :: r0 :: r1 :: r2 :: r3 :: r4 :: r5 :: r6 :: r7 :: r8 :: r9 :: rs):=h.pick 10 rfl
end
end Go.Proofs.YtfemfiiagjnhdaaGreatDoor
