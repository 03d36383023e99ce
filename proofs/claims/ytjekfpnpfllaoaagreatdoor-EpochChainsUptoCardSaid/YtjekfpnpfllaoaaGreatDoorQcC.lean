/- Part of a claim, shortened by a program from its texts: Sep, Err, ErrW, Byte, List, Gua, Old, Dec, Arr. -/
import Derived.Test.YtjekfpnpfllaoaaGreatDoorQcA
import Derived.Test.YtjekfpnpfllaoaaGreatDoorQcB
import Derived.LaidEql
import Derived.Stop.Asserts
import Derived.Laws.Externs
import Derived.Test.YtjekfpnpfllaoaaGreatDoorChecked
import Derived.Lib.SlBytesConst
set_option linter.unusedVariables false
set_option linter.unusedSimpArgs false
set_option linter.unusedSectionVars false
namespace Go.Proofs.YtjekfpnpfllaoaaGreatDoor
open Go Go.RowKit
structure ChgP (fp : Nat → Prop) (w w' : World) : Prop where
  os : w'.os=w.os
  tape : w'.tape=w.tape
  output : w'.output=w.output
  size : w.heap.size ≤ w'.heap.size
  block : ∀ k,k < w.heap.size → ¬ fp k → w'.heap[k]? = w.heap[k]?
abbrev NB : Nat → Prop:=fun _=>False
theorem ChgP.refl (fp : Nat → Prop) (w : World) : ChgP fp w w:=⟨rfl,rfl,rfl,Nat.le_refl _,fun _ _ _=>rfl⟩
theorem ChgP.trans2 {fp g : Nat → Prop} {w1 w2 w3 : World} (h : ChgP fp w1 w2) (k : ChgP g w2 w3) (hs : ∀ b,g b → b < w1.heap.size → fp b) : ChgP fp w1 w3:=
  ⟨k.os.trans h.os,k.tape.trans h.tape,k.output.trans h.output,Nat.le_trans h.size k.size,fun i hi hn=>(k.block i (Nat.lt_of_lt_of_le hi h.size) fun hm=>hn (hs i hm hi)).trans (h.block i hi hn)⟩
theorem ChgP.trans {fp : Nat → Prop} {w1 w2 w3 : World} (h : ChgP fp w1 w2) (k : ChgP fp w2 w3) : ChgP fp w1 w3:=h.trans2 k fun _ hb _=>hb
theorem ChgP.of_ext {fp : Nat → Prop} {w w' : World} (e : Ext w w') : ChgP fp w w':=⟨e.os,e.tape,e.output,e.size,fun k hk _=>e.block k hk⟩
theorem ChgP.ext {w w' : World} (h : ChgP NB w w') : Ext w w':=⟨h.os,h.tape,h.output,h.size,fun k hk=>h.block k hk id⟩
theorem ChgP.of_chg {S : List Nat} {fp : Nat → Prop} {w w' : World} (h : Chg S w w') (hs : ∀ b ∈ S,fp b) : ChgP fp w w':=⟨h.os,h.tape,h.output,h.size,fun k hk hn=>h.block k hk fun hm=>hn (hs k hm)⟩
theorem ChgP.mono {fp g : Nat → Prop} {w w' : World} (h : ChgP fp w w') (hs : ∀ b,fp b → b < w.heap.size → g b) : ChgP g w w':=⟨h.os,h.tape,h.output,h.size,fun k hk hn=>h.block k hk fun hm=>hn (hs k hm hk)⟩
theorem ChgP.foot {fp g : Nat → Prop} {w w' : World} {F : World → Prop} (c : ChgP fp w w') (h : Foot F g w) (hd : ∀ b,g b → ¬ fp b) : Foot F g w':=
  ⟨fun b hb=>Nat.lt_of_lt_of_le (h.lt b hb) c.size,fun w'' hw=>h.all w'' fun b hb=>(hw b hb).trans (c.block b (h.lt b hb) (hd b hb))⟩
structure Rs where
  P : World → (Nat → Prop) → Prop
  lt : ∀ {w fp},P w fp → ∀ b,fp b → b < w.heap.size
  loc : ∀ {w w' fp},P w fp → (∀ b,fp b → w'.heap[b]? = w.heap[b]?) → P w' fp
def Sep (w : World) : (Nat → Prop) → List Rs → Prop
  | _,[]=>True
  | U,r :: rs=>∃ fp,r.P w fp ∧ (∀ b,fp b → U b) ∧ Sep w (fun b=>U b ∧ ¬ fp b) rs
theorem Sep.mono {w : World} : ∀ {rs : List Rs} {U V : Nat → Prop},Sep w U rs → (∀ b,U b → V b) → Sep w V rs
  | [],_,_,_,_=>trivial
  | r :: rs,U,V,⟨fp,h1,h2,h3⟩,hs=>⟨fp,h1,fun b hb=>hs b (h2 b hb),h3.mono fun b hb=>⟨hs b hb.1,hb.2⟩⟩
theorem Sep.below {w : World} : ∀ {rs : List Rs} {U : Nat → Prop},Sep w U rs → Sep w (fun b=>U b ∧ b < w.heap.size) rs
  | [],_,_=>trivial
  | r :: rs,U,⟨fp,h1,h2,h3⟩=>⟨fp,h1,fun b hb=>⟨h2 b hb,r.lt h1 b hb⟩,h3.below.mono fun b hb=>⟨⟨hb.1.1,hb.2⟩,hb.1.2⟩⟩
theorem Sep.loc {w w' : World} : ∀ {rs : List Rs} {U : Nat → Prop},Sep w U rs → (∀ b,U b → b < w.heap.size → w'.heap[b]? = w.heap[b]?) → Sep w' U rs
  | [],_,_,_=>trivial
  | r :: rs,U,⟨fp,h1,h2,h3⟩,hs=>⟨fp,r.loc h1 fun b hb=>hs b (h2 b hb) (r.lt h1 b hb),h2,h3.loc fun b hb hl=>hs b hb.1 hl⟩
theorem Sep.swap {w : World} {r1 r2 : Rs} {rs : List Rs} {U : Nat → Prop} : Sep w U (r1 :: r2 :: rs) → Sep w U (r2 :: r1 :: rs)
  | ⟨f1,h1,h2,f2,k1,k2,h3⟩=>⟨f2,k1,fun b hb=>(k2 b hb).1,f1,h1,fun b hb=>⟨h2 b hb,fun hc=>(k2 b hc).2 hb⟩,h3.mono fun b hb=>⟨⟨hb.1.1,hb.2⟩,hb.1.2⟩⟩
theorem Sep.pick {w : World} : ∀ (rs : List Rs) (i : Nat) {r : Rs} {U : Nat → Prop},rs[i]? = some r → Sep w U rs → Sep w U (r :: rs.eraseIdx i)
  | [],i,r,U,h,_=>by simp at h
  | x :: rs,0,r,U,h,hs=>by
    simp only [List.getElem?_cons_zero,Option.some.injEq] at h;subst h;exact hs
  | x :: rs,i + 1,r,U,h,⟨fp,h1,h2,h3⟩=>by
    simp only [List.getElem?_cons_succ] at h;have:=Sep.pick rs i h h3;exact Sep.swap ⟨fp,h1,h2,this⟩
theorem Sep.tail {w : World} {r : Rs} {rs : List Rs} {U : Nat → Prop} : Sep w U (r :: rs) → Sep w U rs
  | ⟨_,_,_,h⟩=>h.mono fun _ hb=>hb.1
theorem Sep.take {w : World} : ∀ (n : Nat) {rs : List Rs} {U : Nat → Prop},Sep w U rs → Sep w U (rs.take n)
  | 0,_,_,_=>by simp [Sep]
  | n + 1,[],_,_=>by simp [Sep]
  | n + 1,r :: rs,U,⟨fp,h1,h2,h3⟩=>by
    rw [List.take_succ_cons];exact⟨fp,h1,h2,h3.take n⟩
theorem Sep.app {w : World} : ∀ {rs1 rs2 : List Rs} {A B U : Nat → Prop},Sep w A rs1 → Sep w B rs2 → (∀ b,A b → ¬ B b) → (∀ b,A b → U b) → (∀ b,B b → U b) → Sep w U (rs1 ++ rs2)
  | [],rs2,A,B,U,_,h2,_,_,hB=>h2.mono hB
  | r :: rs1,rs2,A,B,U,⟨fp,g1,g2,g3⟩,h2,hd,hA,hB=>
    ⟨fp,g1,fun b hb=>hA b (g2 b hb),g3.app h2 (fun b hb=>hd b hb.1) (fun b hb=>⟨hA b hb.1,hb.2⟩) (fun b hb=>⟨hB b hb,fun hc=>hd b (g2 b hc) hb⟩)⟩
theorem Sep.split {w : World} : ∀ (rs1 : List Rs) {rs2 : List Rs} {U : Nat → Prop},Sep w U (rs1 ++ rs2) → ∃ A : Nat → Prop,Sep w A rs1 ∧ (∀ b,A b → U b ∧ b < w.heap.size) ∧ Sep w (fun b=>U b ∧ ¬ A b) rs2
  | [],rs2,U,h=>⟨NB,trivial,fun _ hb=>hb.elim,Sep.mono (rs := rs2) h fun b hb=>⟨hb,id⟩⟩
  | r :: rs1,rs2,U,⟨fp,h1,h2,h3⟩=>by
    obtain⟨A,g1,g2,g3⟩:=Sep.split rs1 h3;refine⟨fun b=>fp b ∨ A b,⟨fp,h1,fun b hb=>.inl hb,g1.mono fun b hb=>⟨.inr hb,(g2 b hb).1.2⟩⟩,fun b hb=>?_,g3.mono fun b hb=>⟨hb.1.1,fun hc=>hc.elim hb.1.2 hb.2⟩⟩
    rcases hb with hb|hb
    · exact⟨h2 b hb,r.lt h1 b hb⟩
    · exact⟨(g2 b hb).1.1,(g2 b hb).2⟩
theorem Sep.get {w : World} {rs : List Rs} {U : Nat → Prop} (i : Nat) {r : Rs} (h : Sep w U rs) (hi : rs[i]? = some r) : ∃ fp,r.P w fp ∧ ∀ b,fp b → U b:=by
  obtain⟨fp,h1,h2,_⟩:=Sep.pick rs i hi h;exact⟨fp,h1,h2⟩
theorem Sep.apart {w : World} {rs : List Rs} {U : Nat → Prop} (h : Sep w U rs) : ∀ {rs : List Rs} {U : Nat → Prop},Sep w U rs → ∀ (i j : Nat) {r s : Rs},i < j → rs[i]? = some r → rs[j]? = some s → ∃ f g,r.P w f ∧ s.P w g ∧ ∀ b,f b → ¬ g b
  | [],_,_,i,j,r,s,_,h,_=>by simp at h
  | x :: rs,U,⟨fp,h1,h2,h3⟩,0,j + 1,r,s,_,hi,hj=>by
    simp only [List.getElem?_cons_zero,Option.some.injEq] at hi;subst hi;simp only [List.getElem?_cons_succ] at hj;obtain⟨g,k1,k2⟩:=h3.get j hj;exact⟨fp,g,h1,k1,fun b hb hc=>(k2 b hc).2 hb⟩
  | x :: rs,U,⟨fp,h1,h2,h3⟩,i + 1,j + 1,r,s,hij,hi,hj=>by
    simp only [List.getElem?_cons_succ] at hi hj;exact Sep.apart h h3 i j (by omega) hi hj
structure St (fp : Nat → Prop) (w0 w : World) (rs : List Rs) : Prop where
  chg : ChgP fp w0 w
  sep : Sep w (fun b=>fp b ∨ w0.heap.size ≤ b) rs
section
variable {fp : Nat → Prop} {w0 w w' : World} {rs rest : List Rs} {r : Rs}
theorem St.init (h : Sep w fp rs) : St fp w w rs:=⟨ChgP.refl _ _,h.mono fun _ hb=>.inl hb⟩
theorem St.begin (fp : Nat → Prop) (w : World) : St fp w w []:=⟨ChgP.refl _ _,trivial⟩
theorem St.x (h : St NB w0 w rs) : Ext w0 w:=h.chg.ext
theorem St.pick (i : Nat) (h : St fp w0 w rs) (hi : rs[i]? = some r) : St fp w0 w (r :: rs.eraseIdx i):=⟨h.chg,Sep.pick rs i hi h.sep⟩
theorem St.tail (h : St fp w0 w (r :: rs)) : St fp w0 w rs:=⟨h.chg,h.sep.tail⟩
theorem St.take (n : Nat) (h : St fp w0 w rs) : St fp w0 w (rs.take n):=⟨h.chg,h.sep.take n⟩
theorem St.get (i : Nat) (h : St fp w0 w rs) (hi : rs[i]? = some r) : ∃ g,r.P w g:=by
  obtain⟨g,h1,_⟩:=h.sep.get i hi;exact⟨g,h1⟩
theorem St.frame (rs1 : List Rs) (h : St fp w0 w (rs1 ++ rest)) : ∃ g,Sep w g rs1 ∧ (∀ w',ChgP g w w' → ChgP fp w0 w') ∧ (∀ (j : Nat) (r : Rs),rest[j]? = some r → ∀ w',ChgP g w w' → ∃ f,r.P w' f) ∧ ∀ w' rs',St g w w' rs' → St fp w0 w' (rs' ++ rest):=by
  obtain⟨A,h1,h2,h3⟩:=Sep.split rs1 h.sep;have key : ∀ w',ChgP A w w' → ChgP fp w0 w':=fun w' c=>h.chg.trans2 c fun b hb hl=>((h2 b hb).1).elim id fun h=>by omega
  have hrest : ∀ w',ChgP A w w' → Sep w' (fun b=>((fp b ∨ w0.heap.size ≤ b) ∧ ¬ A b) ∧ b < w.heap.size) rest:=fun w' c=>h3.below.loc fun b hb hl=>c.block b hl hb.1.2
  refine⟨A,h1,key,fun j r hj w' c=>?_,fun w' rs' k=>⟨key w' k.chg,?_⟩⟩
  · obtain⟨f,g1,_⟩:=(hrest w' c).get j hj;exact⟨f,g1⟩
  · refine k.sep.app (hrest w' k.chg) (fun b hb hc=>?_) (fun b hb=>?_) (fun b hb=>hb.1.1)
    · rcases hb with hb | hb
      · exact hc.1.2 hb
      · have:=hc.2;omega
    · rcases hb with hb | hb
      · exact (h2 b hb).1
      · exact .inr (Nat.le_trans h.chg.size hb)
theorem St.frame1 {r1 : Rs} (h : St fp w0 w (r1 :: rest)) : ∃ g,Sep w g [r1] ∧ (∀ w',ChgP g w w' → ChgP fp w0 w') ∧ (∀ (j : Nat) (r : Rs),rest[j]? = some r → ∀ w',ChgP g w w' → ∃ f,r.P w' f) ∧ ∀ w' rs',St g w w' rs' → St fp w0 w' (rs' ++ rest):=St.frame [r1] h
theorem St.frame2 {r1 r2 : Rs} (h : St fp w0 w (r1 :: r2 :: rest)) : ∃ g,Sep w g [r1,r2] ∧ (∀ w',ChgP g w w' → ChgP fp w0 w') ∧ (∀ (j : Nat) (r : Rs),rest[j]? = some r → ∀ w',ChgP g w w' → ∃ f,r.P w' f) ∧ ∀ w' rs',St g w w' rs' → St fp w0 w' (rs' ++ rest):=St.frame [r1,r2] h
theorem St.new {rs' : List Rs} (h : St fp w0 w rest) (k : St NB w w' rs') : St fp w0 w' (rs' ++ rest):=by
  obtain⟨g,_,h1,_,h2⟩:=St.frame (rs1:=[]) (rest:=rest) h;exact h2 w' rs' ⟨ChgP.of_ext k.chg.ext,k.sep.mono fun b hb=>hb.elim False.elim .inr⟩
theorem St.ext (h : St fp w0 w rs) (e : Ext w w') : St fp w0 w' rs:=h.new (rs':=[]) ⟨ChgP.of_ext e,trivial⟩
theorem St.add {g : Nat → Prop} (h : St fp w0 w rs) (e : Ext w w') (hr : r.P w' g) (hg : ∀ b,g b → w.heap.size ≤ b) : St fp w0 w' (r :: rs):=
  h.new (rs':=[r]) ⟨ChgP.of_ext e,g,hr,fun b hb=>.inr (hg b hb),trivial⟩
theorem St.upd {r' : Rs} (h : St fp w0 w (r :: rs)) (hu : ∀ g,r.P w g → ChgP g w w' ∧ ∃ g',r'.P w' g' ∧ ∀ b,g' b → g b ∨ w.heap.size ≤ b) : St fp w0 w' (r' :: rs):=by
  obtain⟨g,⟨g0,h1,h2,_⟩,_,_,h4⟩:=St.frame (rs1:=[r]) (rest:=rs) h;obtain⟨c,g',k1,k2⟩:=hu g0 h1;exact h4 w' [r'] ⟨c.mono fun b hb _=>h2 b hb,g',k1,fun b hb=>(k2 b hb).elim (fun hb=>.inl (h2 b hb)) .inr,trivial⟩
theorem St.conv {r' : Rs} (h : St fp w0 w (r :: rs)) (hu : ∀ g,r.P w g → ∃ g',r'.P w g' ∧ ∀ b,g' b → g b) : St fp w0 w (r' :: rs):=
  h.upd fun g hg=>by
    obtain⟨g',h1,h2⟩:=hu g hg;exact⟨ChgP.refl _ _,g',h1,fun b hb=>.inl (h2 b hb)⟩
theorem St.after {w1 : World} (h : St fp w0 w []) (k : St NB w w1 rs) : St fp w0 w1 rs:=by
  have:=h.new k
  simpa using this
end
theorem Zlb {w w' : World} {b : Nat} (h : b < w.heap.size) (e : w'.heap[b]? = w.heap[b]?) : b < w'.heap.size:=by
  by_cases hl : b < w'.heap.size
  · exact hl
  · rw [Array.getElem?_eq_none (by omega),Array.getElem?_eq_getElem h] at e;cases e
def blkR (b : Nat) (cs : List Value) (T : TypeId) : Rs where
  P w fp:=Blk w b cs T ∧ ∀ c,fp c ↔ c=b
  lt h c hc:=by rw [(h.2 c).1 hc];exact h.1.lt
  loc h hw:=⟨h.1.foot.all _ fun c hc=>hw c ((h.2 c).2 hc),h.2⟩
def ownR (E k : Nat) (v : Value) (n : Nat) (xs : List Value) : Rs where
  P w fp:=Own w E k v n xs ∧ ∀ c,fp c ↔ c ∈ Zap v
  lt h c hc:=h.1.lt c ((h.2 c).1 hc)
  loc h hw:=⟨h.1.foot.all _ fun c hc=>hw c ((h.2 c).2 hc),h.2⟩
def anyR (F : World → Prop) : Rs where
  P w fp:=Foot F fp w
  lt h:=h.lt
  loc h hw:=⟨fun b hb=>Zlb (h.lt b hb) (hw b hb),fun w'' h''=>h.all w'' fun b hb=>(h'' b hb).trans (hw b hb)⟩
def exR {α : Type} (r : α → Rs) : Rs where
  P w fp:=∃ x,(r x).P w fp
  lt h:=by obtain⟨x,h⟩:=h;exact (r x).lt h
  loc h hw:=by obtain⟨x,h⟩:=h;exact⟨x,(r x).loc h hw⟩
def pureR (p : Prop) : Rs where
  P w fp:=p ∧ ∀ b,¬ fp b
  lt h b hb:=(h.2 b hb).elim
  loc h _:=h
def starR (rs : List Rs) : Rs where
  P w fp:=Sep w fp rs ∧ ∀ b,fp b → b < w.heap.size
  lt h:=h.2
  loc h hw:=⟨h.1.loc fun b hb _=>hw b hb,fun b hb=>Zlb (h.2 b hb) (hw b hb)⟩
section
variable {fp : Nat → Prop} {w0 w w' : World} {rs rest : List Rs} {r : Rs} {b : Nat} {cs cs' : List Value} {T : TypeId} {E k n : Nat} {v v' : Value} {xs xs' : List Value}
theorem St.blk (i : Nat) (h : St fp w0 w rs) (hi : rs[i]? = some (blkR b cs T)) : Blk w b cs T:=by obtain⟨g,h1,_⟩:=h.get i hi;exact h1
theorem St.own (i : Nat) (h : St fp w0 w rs) (hi : rs[i]? = some (ownR E k v n xs)) : Own w E k v n xs:=by obtain⟨g,h1,_⟩:=h.get i hi;exact h1
theorem St.any (i : Nat) {F : World → Prop} (h : St fp w0 w rs) (hi : rs[i]? = some (anyR F)) : F w:=by obtain⟨g,h1⟩:=h.get i hi;exact Foot.now h1
theorem St.newBlk (h : St fp w0 w rs) (hb : Blk w' b cs T) (e : Ext w w') (hl : w.heap.size=b) : St fp w0 w' (blkR b cs T :: rs):=
  h.add (r:=blkR b cs T) (g:=fun c=>c=b) e ⟨hb,fun _=>Iff.rfl⟩ fun c hc=>by omega
theorem St.newOwn (h : St fp w0 w rs) (hb : Own w' E k v n xs) (e : Ext w w') (hl : ∀ c ∈ Zap v,w.heap.size ≤ c) : St fp w0 w' (ownR E k v n xs :: rs):=
  h.add (r:=ownR E k v n xs) (g:=fun c=>c ∈ Zap v) e ⟨hb,fun _=>Iff.rfl⟩ hl
theorem St.nilOwn (h : St fp w0 w rs) (E k : Nat) : St fp w0 w (ownR E k (.slice none 0 0) 0 [] :: rs):=h.newOwn (Own.nil w E k) Ext.rfl' (by simp [Zap])
theorem St.setBlk (h : St fp w0 w (blkR b cs T :: rs)) (hb : Blk w' b cs' T) (c : Chg [b] w w') : St fp w0 w' (blkR b cs' T :: rs):=
  h.upd fun g hg=>⟨ChgP.of_chg c fun x hx=>(hg.2 x).2 (List.mem_singleton.1 hx),fun x=>x=b,⟨hb,fun _=>Iff.rfl⟩,fun x hx=>.inl ((hg.2 x).2 hx)⟩
theorem St.setOwn {E' k' n' : Nat} (h : St fp w0 w (ownR E k v n xs :: rs)) (hb : Own w' E' k' v' n' xs') (c : Chg (Zap v) w w') (hv : Zap v' = Zap v ∨ ∃ b,Zap v' = [b] ∧ w.heap.size ≤ b) : St fp w0 w' (ownR E' k' v' n' xs' :: rs):=
  h.upd fun g hg=>⟨ChgP.of_chg c fun x hx=>(hg.2 x).2 hx,fun x=>x ∈ Zap v',⟨hb,fun _=>Iff.rfl⟩,fun x hx=>by
    rcases hv with hv | ⟨b,hv,hl⟩
    · exact .inl ((hg.2 x).2 (hv ▸ hx))
    · rw [hv] at hx;rw [List.mem_singleton.1 hx];exact .inr hl⟩
theorem St.star {rs1 : List Rs} (h : St fp w0 w (starR rs1 :: rs)) : St fp w0 w (rs1 ++ rs):=by
  obtain⟨c,f,⟨h1,h2⟩,h3,h4⟩:=h;exact⟨c,h1.app h4 (fun b hb hc=>hc.2 hb) h3 fun b hb=>hb.1⟩
theorem St.fold (rs1 : List Rs) (h : St fp w0 w (rs1 ++ rs)) : St fp w0 w (starR rs1 :: rs):=by
  obtain⟨c,h⟩:=h;obtain⟨A,h1,h2,h3⟩:=Sep.split rs1 h;exact⟨c,A,⟨h1,fun b hb=>(h2 b hb).2⟩,fun b hb=>(h2 b hb).1,h3⟩
theorem St.ex {α : Type} {f : α → Rs} (h : St fp w0 w (exR f :: rs)) : ∃ x,St fp w0 w (f x :: rs):=by
  obtain⟨c,g,⟨x,h1⟩,h3,h4⟩:=h;exact⟨x,c,g,h1,h3,h4⟩
theorem St.mkEx {α : Type} {f : α → Rs} (x : α) (h : St fp w0 w (f x :: rs)) : St fp w0 w (exR f :: rs):=by
  obtain⟨c,g,h1,h3,h4⟩:=h;exact⟨c,g,⟨x,h1⟩,h3,h4⟩
theorem St.pure {p : Prop} (h : St fp w0 w (pureR p :: rs)) : p ∧ St fp w0 w rs:=by
  obtain⟨c,g,h1,h3,h4⟩:=h;exact⟨h1.1,c,h4.mono fun b hb=>hb.1⟩
theorem St.mkPure {p : Prop} (hp : p) (h : St fp w0 w rs) : St fp w0 w (pureR p :: rs):=h.add (g:=NB) Ext.rfl' ⟨hp,fun _ h=>h⟩ fun _ h=>h.elim
theorem St.blkOwn (n k : Nat) (h : St fp w0 w (blkR b cs T :: rs)) (hn : cs.length=n * k) (hm : n ≤ maxLen) : St fp w0 w (ownR T k (.slice (some ⟨b,0,none⟩) n n) n cs :: rs):=
  h.conv fun g hg=>⟨g,⟨Own.ofBlk hg.1 hn hm,fun c=>by rw [hg.2 c];simp [Zap]⟩,fun _ hb=>hb⟩
theorem St.ownAny {F : World → Prop} (h : St fp w0 w (ownR E k v n xs :: rs)) (hF : ∀ w',Own w' E k v n xs → F w') : St fp w0 w (anyR F :: rs):=
  h.conv fun g hg=>⟨fun b=>b ∈ Zap v,hg.1.foot.mono hF,fun b hb=>(hg.2 b).2 hb⟩
theorem St.blkAny {F : World → Prop} (h : St fp w0 w (blkR b cs T :: rs)) (hF : ∀ w',Blk w' b cs T → F w') : St fp w0 w (anyR F :: rs):=
  h.conv fun g hg=>⟨fun c=>c=b,hg.1.foot.mono hF,fun c hc=>(hg.2 c).2 hc⟩
theorem St.anyMono {F G : World → Prop} (h : St fp w0 w (anyR F :: rs)) (hF : ∀ w',F w' → G w') : St fp w0 w (anyR G :: rs):=
  h.conv fun g hg=>⟨g,Foot.mono hg hF,fun b hb=>hb⟩
theorem St.anyAnd {F G : World → Prop} (h : St fp w0 w (anyR F :: anyR G :: rs)) : St fp w0 w (anyR (fun w=>F w ∧ G w) :: rs):=by
  obtain⟨c,f,h1,h2,g,k1,k2,h3⟩:=h;exact⟨c,fun b=>f b ∨ g b,Foot.and h1 k1,fun b hb=>hb.elim (h2 b) fun hb=>(k2 b hb).1,h3.mono fun b hb=>⟨hb.1.1,fun hc=>hc.elim hb.1.2 hb.2⟩⟩
theorem St.newAny {F : World → Prop} {g : Nat → Prop} (h : St fp w0 w rs) (e : Ext w w') (hF : Foot F g w') (hl : ∀ b,g b → w.heap.size ≤ b) : St fp w0 w' (anyR F :: rs):=h.add (r:=anyR F) e hF hl
theorem St.trivAny {F : World → Prop} (h : St fp w0 w rs) (hF : ∀ w',F w') : St fp w0 w (anyR F :: rs):=h.newAny (g:=NB) Ext.rfl' ⟨fun _ h=>h.elim,fun w' _=>hF w'⟩ fun _ h=>h.elim
theorem St.ne {i j c : Nat} {cs2 : List Value} {T2 : TypeId} (h : St fp w0 w rs) (hij : i ≠ j) (hi : rs[i]? = some (blkR b cs T)) (hj : rs[j]? = some (blkR c cs2 T2)) : b ≠ c:=by
  intro e;subst e
  rcases Nat.lt_or_gt_of_ne hij with hl|hl
  · obtain⟨f,g,h1,h2,h3⟩:=Sep.apart h.sep h.sep i j hl hi hj;exact h3 b ((h1.2 b).2 rfl) ((h2.2 b).2 rfl)
  · obtain⟨f,g,h1,h2,h3⟩:=Sep.apart h.sep h.sep j i hl hj hi;exact h3 b ((h1.2 b).2 rfl) ((h2.2 b).2 rfl)
theorem St.neOwn {i j : Nat} (h : St fp w0 w rs) (hij : i ≠ j) (hi : rs[i]? = some (blkR b cs T)) (hj : rs[j]? = some (ownR E k v n xs)) : b ∉ Zap v:=by
  intro e
  rcases Nat.lt_or_gt_of_ne hij with hl|hl
  · obtain⟨f,g,h1,h2,h3⟩:=Sep.apart h.sep h.sep i j hl hi hj;exact h3 b ((h1.2 b).2 rfl) ((h2.2 b).2 e)
  · obtain⟨f,g,h1,h2,h3⟩:=Sep.apart h.sep h.sep j i hl hj hi;exact h3 b ((h1.2 b).2 e) ((h2.2 b).2 rfl)
theorem St.ge {i : Nat} (h : St NB w0 w rs) (hi : rs[i]? = some (blkR b cs T)) : w0.heap.size ≤ b:=by
  obtain⟨g,h1,h2⟩:=h.sep.get i hi;exact (h2 b ((h1.2 b).2 rfl)).elim False.elim id
theorem Own.splice {cap o : Nat} {vs : List Value} {cs : List Value} (h1 : n ≤ cap) (h2 : cap ≤ maxLen) (h3 : cs.length=cap * k) (h4 : cs.take (n * k)=xs) (h5 : xs.length=n * k) (ho : o + vs.length ≤ n * k) (hb : Blk w' b (cs.take o ++ vs ++ cs.drop (o + vs.length)) E) :
    Own w' E k (.slice (some ⟨b,0,none⟩) n cap) n (xs.take o ++ vs ++ xs.drop (o + vs.length)):=by
  have hc : n * k ≤ cap * k:=Nat.mul_le_mul_right k h1;refine .inr ⟨b,cap,_,rfl,hb,h1,h2,by simp only [List.length_append,List.length_take,List.length_drop];omega,by simp only [List.length_append,List.length_take,List.length_drop];omega,?_⟩;have e1 : n * k ≤ cs.length:=by omega
  have e3 : n * k ≤ cs.length:=by omega
  subst h4
  generalize n * k=m at *
  apply List.ext_getElem?;intro j
  rcases Nat.lt_or_ge j o with hj|hj
  · rw [List.getElem?_take_of_lt (by omega),List.append_assoc,List.append_assoc,List.getElem?_append_left (by simp;omega),List.getElem?_append_left (by simp;omega),List.getElem?_take_of_lt hj,List.getElem?_take_of_lt hj,List.getElem?_take_of_lt (by omega)]
  · by_cases hm : j < m
    · have l1 : (List.take o cs).length=o:=by simp;omega
      have l2 : (List.take o (List.take m cs)).length=o:=by simp;omega
      rw [List.getElem?_take_of_lt hm,List.append_assoc,List.append_assoc,List.getElem?_append_right (l₁:=List.take o cs) (by rw [l1];exact hj),List.getElem?_append_right (l₁:=List.take o (List.take m cs)) (by rw [l2];exact hj),l1,l2]
      by_cases hv : j - o < vs.length
      · rw [List.getElem?_append_left hv,List.getElem?_append_left hv]
      · rw [List.getElem?_append_right (by omega),List.getElem?_append_right (by omega),List.getElem?_drop,List.getElem?_drop,List.getElem?_take_of_lt (by omega)]
    · rw [List.getElem?_eq_none (by simp;omega),List.getElem?_eq_none (by simp;omega)]
end
end Go.Proofs.YtjekfpnpfllaoaaGreatDoor
set_option linter.unusedVariables false
set_option linter.unusedSimpArgs false
set_option linter.unusedSectionVars false
namespace Go.Proofs.YtjekfpnpfllaoaaGreatDoor
open Go Go.RowKit Go.Extern
section
variable {P : Program} {L : Operand → Option Value} {C : World → Prop}
theorem Zep {x : Operand} {v u : Value} {T I : TypeId} {b : Bool} (e : L x=some v) (hr : ∀ w,(Instr.typeAssert v T I b).run P w=.ok u w) : Q1 P L (.typeAssert x T I b) C u:=
  fun ρ h w' _ dst ty pos af g=>by simp [execOp,h x v e,hr]
theorem Zm0 {f : FuncId} {x : Operand} {v u : Value} {tys : Array TypeId} (ef : L (.func f)=some (.func (.func f) #[] #[])) (e : L x=some v) (hr : ∀ w,C w → (callFunc f #[v]).run P w=.ok (.value u) w) :
    Q1 P L (.call { callee:=.value (.func f),args:=#[x],argTypes:=tys }) C u:=
  fun ρ h w' hw dst ty pos af g=>by simp [execOp,resolve,h _ _ ef,h x v e,Deferred.ofValue,invoke,hr w' hw]
theorem Zpd {x : Operand} {t : TypeId} {v r u : Value} {name : String} {f : FuncId} {tys : Array TypeId} (e : L x=some (.iface t v)) (hm : ∀ w,(method (P.types.size + Made.depth) t v name).run P w=.ok (f,r) w) (hr : ∀ w,C w → (callFunc f #[r]).run P w=.ok (.value u) w) :
    Q1 P L (.call { callee:=.invoke x name,args:=#[],argTypes:=tys }) C u:=
  fun ρ h w' hw dst ty pos af g=>by simp [execOp,resolve,h x _ e,invoke,callMethod,hm,hr w' hw]
theorem Zuh {x y : Operand} {t : TypeId} {v z r u : Value} {name : String} {f : FuncId} {tys : Array TypeId} (e : L x=some (.iface t v)) (ey : L y=some z) (hm : ∀ w,(method (P.types.size + Made.depth) t v name).run P w=.ok (f,r) w) (hr : ∀ w,C w → (callFunc f #[r,z]).run P w=.ok (.value u) w) :
    Q1 P L (.call { callee:=.invoke x name,args:=#[y],argTypes:=tys }) C u:=
  fun ρ h w' hw dst ty pos af g=>by simp [execOp,resolve,h x _ e,h y _ ey,invoke,callMethod,hm,hr w' hw]
end
section
variable {P : Program} {ops : Array Oper} {Q : Exit → Act → World → Prop} {rest : List Oper} {a : Act} {n : Nat} {l : List (Nat × Option Value)} {w : World}
  {ty : TypeId} {pos : String} {af : Array Edge} {d : Nat}
theorem Zui {f : FuncId} {x : Operand} {v u : Value} {w' : World} {tys : Array TypeId} (H : Has a n l) (e : lo l x=some v) (hr : (callFunc f #[v]).run P w=.ok (.value u) w') (hd : Nat.blt d n=true) (h : ∀ a',Has a' n ((d,some u) :: l) → wpList P ops Q rest a' w') :
    wpList P ops Q (⟨some d,.call { callee:=.value (.func f),args:=#[x],argTypes:=tys },ty,pos,af,none⟩ :: rest) a w:=
  Zn7 (w':=w') H (fun ρ hρ=>by simp [execOp,resolve,hρ (.func f) _ rfl,hρ x _ e,Deferred.ofValue,invoke,hr]) hd h
theorem n_ext2 {f : FuncId} {x y : Operand} {v z u : Value} {w' : World} {tys : Array TypeId} (H : Has a n l) (e : lo l x=some v) (ey : lo l y=some z) (hr : (callFunc f #[v,z]).run P w=.ok (.value u) w') (hd : Nat.blt d n=true) (h : ∀ a',Has a' n ((d,some u) :: l) → wpList P ops Q rest a' w') :
    wpList P ops Q (⟨some d,.call { callee:=.value (.func f),args:=#[x,y],argTypes:=tys },ty,pos,af,none⟩ :: rest) a w:=
  Zn7 (w':=w') H (fun ρ hρ=>by simp [execOp,resolve,hρ (.func f) _ rfl,hρ x _ e,hρ y _ ey,Deferred.ofValue,invoke,hr]) hd h
theorem nc_no {lc : List (Nat × (Nat × Bool) × Value)} {op : Op} {j t : Nat} {want b : Bool} (H : HasC ops a n l lc) (hj : (ops[j]?).bind (·.dst)=some t) (ht : lk l t=some (.bool b)) (hb : b ≠ want) (hd : Nat.blt d n=true) (hk : okc ops d lc=true)
    (hg : (match (ops[j]?).bind (·.dst) with | some t=>!(Nat.beq t d) | none=>true)=true)
    (h : ∀ a',HasC ops a' n ((d,none) :: l) ((d,(j,want),undef) :: lc) → wpList P ops Q rest a' w) :
    wpList P ops Q (⟨some d,op,ty,pos,af,some (j,want)⟩ :: rest) a w:=by
  have hy : yielded ops a.tmps j=some b:=Zbp H.has hj ht;refine wpList_step fun K hK=>?_
  rw [if_neg (fun hw=>by
    have:=(He (o:=⟨some d,op,ty,pos,af,some (j,want)⟩) rfl).1 hw;simp only at this;rw [hy] at this;exact hb (Option.some.inj this))]
  exact hK _ _ (h _ (H.putg (j,want) d undef undef hd hk hg fun _=>rfl))
theorem Zf7 (ρ : Operand → Value) (dst : Option Nat) (op : Op) (ty : TypeId) (pos : String) (af : Array Edge) (g : Option (Nat × Bool)) : execOp ρ ⟨dst,op,ty,pos,af,g⟩=execOp ρ ⟨dst,op,ty,pos,af,none⟩:=by
  cases op <;> rfl
theorem nc_yes {lc : List (Nat × (Nat × Bool) × Value)} {op : Op} {dst : Option Nat} {j t : Nat} {want : Bool} (H : HasC ops a n l lc) (hj : (ops[j]?).bind (·.dst)=some t) (ht : lk l t=some (.bool want))
    (h : wpList P ops Q (⟨dst,op,ty,pos,af,none⟩ :: rest) a w) : wpList P ops Q (⟨dst,op,ty,pos,af,some (j,want)⟩ :: rest) a w:=by
  have hy : yielded ops a.tmps j=some want:=Zbp H.has hj ht;have hw : Region.wanted ⟨dst,op,ty,pos,af,some (j,want)⟩ (yielded ops a.tmps)=true:=(He (g:=(j,want)) (o:=⟨dst,op,ty,pos,af,some (j,want)⟩) rfl).2 hy;have hw2 : Region.wanted ⟨dst,op,ty,pos,af,none⟩ (yielded ops a.tmps)=true:=by simp [Region.wanted]
  unfold wpList at h ⊢;rw [if_pos hw];rw [if_pos hw2] at h;have e1 : ∀ next,Oper.wp P ⟨dst,op,ty,pos,af,some (j,want)⟩ a w next Q ↔ Oper.wp P ⟨dst,op,ty,pos,af,none⟩ a w next Q:=fun next=>by
    unfold Oper.wp;rw [Zf7];unfold Oper.upon;rfl
  rcases h with h | ⟨h,k⟩
  · exact .inl ((e1 _).2 h)
  · refine .inr ⟨?_,k⟩;unfold Oper.asks at h ⊢;rw [Zf7];exact h
theorem Zq {L : Operand → Option Value} {C : World → Prop} {c x y : Operand} {v : Value} (ec : L c=some (.bool false)) (ey : L y=some v) : Q1 P L (.pick c x y) C v:=
  fun ρ h w' _ dst ty pos af g=>by simp [execOp,h c _ ec,h y _ ey,asBool]
theorem Zp {L : Operand → Option Value} {C : World → Prop} {c x y : Operand} {v : Value} (ec : L c=some (.bool true)) (ex : L x=some v) : Q1 P L (.pick c x y) C v:=
  fun ρ h w' _ dst ty pos af g=>by simp [execOp,h c _ ec,h x _ ex,asBool]
theorem n_inv {x : Operand} {t : TypeId} {v r : Value} {name : String} {f : FuncId} {tys : Array TypeId} {Φ : Value → World → Prop} (H : Has a n l) (e : lo l x=some (.iface t v)) (hm : ∀ w,(method (P.types.size + Made.depth) t v name).run P w=.ok (f,r) w) (hf : Zt P f=true)
    (hc : Calls P f #[r] w (Ret Φ)) (hd : Nat.blt d n=true) (h : ∀ u w',Φ u w' → ∀ a',Has a' n ((d,some u) :: l) → wpList P ops Q rest a' w') :
    wpList P ops Q (⟨some d,.call { callee:=.invoke x name,args:=#[],argTypes:=tys },ty,pos,af,none⟩ :: rest) a w:=
  wpList_plain rfl fun K hK=>by
    refine Zic (f:=f) (args:=#[r]) (by
      simp [execOp,resolve,H.eval x _ e,invoke,callMethod,hm,Kb hf]) hc fun u w' hv=>hK _ _ (h u w' hv _ (H.put d u hd))
end
inductive ErrM where
  | nil
  | v (g : Nat)
  | pl (p : Int) (g : Nat)
  deriving DecidableEq
def ErrM.isAt : ErrM → Bool
  | .pl _ _=>true
  | _=>false
def ErrM.g? : ErrM → Option Nat
  | .nil=>none
  | .v g=>some g
  | .pl _ g=>some g
def ErrM.depth : ErrM → Nat
  | .pl _ _=>1
  | _=>0
def ErrM.place : ErrM → Int
  | .pl p _=>p
  | _=>-1
def Kp (TE TA : TypeId) (gs : List Nat) (A : Nat → Addr) (w : World) (u : Value) : ErrM → Prop
  | .nil=>u=.nilIface
  | .v g=>g ∈ gs ∧ u=sv TE A g
  | .pl p g=>g ∈ gs ∧ ∃ b,u=.iface TA (.pointer (some ⟨b,0,none⟩)) ∧ w.cell? ⟨b,0,none⟩=some (.int .i64 p) ∧ w.cell? ⟨b,1,none⟩=some (sv TE A g)
section
variable {TE TA : TypeId} {gs : List Nat} {A : Nat → Addr} {w w' : World} {u : Value} {e : ErrM}
theorem Kp.agr (h : Kp TE TA gs A w u e) (x : Agr w w') : Kp TE TA gs A w' u e:=by
  cases e with
  | nil=>exact h
  | v g=>exact h
  | pl p g=>
    obtain⟨h1,b,h2,h3,h4⟩:=h;exact⟨h1,b,h2,Zhp h3 x,Zhp h4 x⟩
theorem Kp.ext (h : Kp TE TA gs A w u e) (x : Ext w w') : Kp TE TA gs A w' u e:=h.agr x.agr
theorem Kp.mono {gs' : List Nat} (h : Kp TE TA gs A w u e) (hs : ∀ g ∈ gs,g ∈ gs') : Kp TE TA gs' A w u e:=by
  cases e with
  | nil=>exact h
  | v g=>exact⟨hs g h.1,h.2⟩
  | pl p g=>exact⟨hs g h.1,h.2⟩
theorem Kp.form (h : Kp TE TA gs A w u e) : u=.nilIface ∨ ∃ t x,u=.iface t x:=by
  cases e with
  | nil=>exact .inl h
  | v g=>exact .inr ⟨_,_,h.2⟩
  | pl p g=>obtain⟨_,b,h,_⟩ := h;exact .inr ⟨_,_,h⟩
theorem Kp.one (h : Kp TE TA gs A w u e) : u.oneCell' = true:=by
  rcases h.form with rfl | ⟨t,x,rfl⟩ <;> rfl
theorem Kp.isNil (h : Kp TE TA gs A w u e) : Zg1 u=decide (e=.nil):=by
  cases e with
  | nil=>rw [show u=.nilIface from h];rfl
  | v g=>rw [show u=sv TE A g from h.2];rfl
  | pl p g=>obtain⟨_,b,h,_⟩ := h;rw [h];rfl
theorem Kp.type (h : Kp TE TA gs A w u e) (hn : e ≠ .nil) : ∃ x,u=.iface (if e.isAt=true then TA else TE) (.pointer (some x)):=by
  cases e with
  | nil=>exact absurd rfl hn
  | v g=>exact⟨_,h.2⟩
  | pl p g=>obtain⟨_,b,h,_⟩ := h;exact⟨_,h⟩
theorem Kp.var {g : Nat} (hg : g ∈ gs) : Kp TE TA gs A w (sv TE A g) (.v g):=⟨hg,rfl⟩
theorem Kp.mk {b : Nat} {T : TypeId} {p : Int} {g : Nat} (hg : g ∈ gs) (hB : Blk w b [.int .i64 p,sv TE A g] T) : Kp TE TA gs A w (.iface TA (.pointer (some ⟨b,0,none⟩))) (.pl p g):=
  ⟨hg,b,rfl,hB.cell 0,hB.cell 1⟩
variable {P : Program}
def ErrM.isV (e : ErrM) (g : Nat) : Bool:=match e with
  | .v g'=>decide (g' = g)
  | _=>false
theorem Zq6 {ti te : TypeId} {ms : Array (String × TypeId)} {i j : TypeInfo} (hG : GV TE gs A w) (h : Kp TE TA gs A w u e) {g : Nat} (hg : g ∈ gs) (hne : TA ≠ TE)
    (hi : P.underlying ti=some (.interface ms)) (hp : P.underlying TE=some (.pointer te)) (hinfo : P.info? TE=some i) (hcomp : i.comparable=true) (hte : P.info? te=some j) (hsz : j.size ≠ 0) :
    (binOp .eql ti u (sv TE A g)).run P w=.ok (.bool (e.isV g)) w:=by
  cases e with
  | nil=>rw [show u=.nilIface from h];exact run_eql_iface_nil_left w _ _ hi
  | v g'=>
    rw [show u=sv TE A g' from h.2]
    by_cases hgg : g' = g
    · subst hgg;have:=run_eql_iface_ptr_same (P:=P) w (A g') hi hp hinfo hcomp hte;have e1 : ErrM.isV (.v g') g' = true:=by simp [ErrM.isV]
      rw [e1];exact this
    · obtain⟨c1,t1,h1⟩:=(hG.cell g' h.1).2;obtain⟨c2,t2,h2⟩:=(hG.cell g hg).2;have:=run_eql_iface_ptr_other (P:=P) w hi hp hinfo hcomp hte hsz (hG.ne g' h.1 g hg hgg) h1 h2;have e1 : ErrM.isV (.v g') g=false:=by simp [ErrM.isV,hgg]
      rw [e1];exact this
  | pl p g'=>
    obtain⟨_,b,h,_⟩:=h;rw [h];exact run_eql_iface_types _ _ _ _ hi hne w
theorem Zpe {ti t' te : TypeId} {ms : Array (String × TypeId)} {i j : TypeInfo} {L : Operand → Option Value} {x y : Operand} (hG : GV TE gs A w) (h : Kp TE TA gs A w u e) {g : Nat} (hg : g ∈ gs) (hne : TA ≠ TE)
    (hi : P.underlying ti=some (.interface ms)) (hp : P.underlying TE=some (.pointer te)) (hinfo : P.info? TE=some i) (hcomp : i.comparable=true) (hte : P.info? te=some j) (hsz : j.size ≠ 0)
    (ex : L x=some u) (ey : L y=some (sv TE A g)) : Q1 P L (.binOp .eql ti x y t') (Ext w) (.bool (e.isV g)):=
  fun ρ hρ w' hw dst ty pos af gd=>by
    have hr:=Zq6 (P:=P) (hG.ext hw) (h.ext hw) hg hne hi hp hinfo hcomp hte hsz;have hgd : (eqGuard .eql ti x y u (sv TE A g)).run P w' = .ok () w':=by
      rcases h.form with rfl | ⟨t,z,rfl⟩ <;> simp [eqGuard,sv]
    simp only [execOp,hρ x _ ex,hρ y _ ey,Sem.run_bind,hgd,Result.andThen_ok,hr,Sem.run_pure]
end
end Go.Proofs.YtjekfpnpfllaoaaGreatDoor
set_option linter.unusedVariables false
set_option linter.unusedSimpArgs false
set_option maxRecDepth 10000
namespace Go.Proofs.YtjekfpnpfllaoaaGreatDoor
open Go Go.RowKit
open Go.Extern
theorem ag118 : Ty Tryz.prog 118=some false:=by kernel_rfl
theorem ag131 : Ty Tryz.prog 131=some false:=by kernel_rfl
theorem Zs1 : Ty Tryz.prog 137=some true:=by kernel_rfl
theorem ag3 : Ty Tryz.prog 3=some false:=by kernel_rfl
theorem Zdl : Ty Tryz.prog 39=some false:=by kernel_rfl
theorem en163 : Zt Tryz.prog 163=true:=by kernel_rfl
theorem Zkg : Zt Tryz.prog 50=true:=by kernel_rfl
theorem en59 : Zt Tryz.prog 59=true:=by kernel_rfl
theorem en60 : Zt Tryz.prog 60=true:=by kernel_rfl
theorem en74 : Zt Tryz.prog 74=true:=by kernel_rfl
theorem en79 : Zt Tryz.prog 79=true:=by kernel_rfl
theorem Zuw : Zcy Tryz.prog 122 0=some 0:=by kernel_rfl
theorem Zux : Zcy Tryz.prog 122 1=some 1:=by kernel_rfl
theorem Zq7 : Xb Tryz.prog 137=some 3:=by kernel_rfl
theorem ze118 : Tw Tryz.prog 118=some [.pointer none]:=by kernel_rfl
theorem ze137 : Tw Tryz.prog 137=some [.pointer none,.pointer none,.int .u64 0]:=by kernel_rfl
abbrev Zs2 : List Nat:=[5,6,7,8,9,10,11,4,3,0,12,2,1,13,14,15,16,17,18,19]
abbrev EV (A : Nat → Addr) (w : World) : Prop:=GV 200 Zs2 A w
abbrev IsE (A : Nat → Addr) (w : World) (u : Value) (e : ErrM) : Prop:=Kp 200 118 Zs2 A w u e
def Zs3 (g : Nat) : Int:=(Zs2.idxOf g : Int) + 1
def ErrM.code (e : ErrM) : Int:=match e.g? with
  | none=>0
  | some g=>Zs3 g
theorem Tryz.neAE : 118 ≠ 200:=by decide
theorem Tryz.typeOfE (v : Value) (w : World) : (Extern.ReflectliteType.typeOf #[.iface 200 v]).run Tryz.prog w=.ok (.iface 156 (.agg #[.pointer (some ⟨21,200,none⟩)])) w:=by kernel_rfl
theorem Tryz.typeOfA (v : Value) (w : World) : (Extern.ReflectliteType.typeOf #[.iface 118 v]).run Tryz.prog w=.ok (.iface 156 (.agg #[.pointer (some ⟨21,118,none⟩)])) w:=by kernel_rfl
theorem Tryz.compE (w : World) : ((Extern.ReflectliteType.method fun t => do Extern.Rtype.noPackHeld "Comparable" t; pure (.bool (← typeInfo t).comparable)) #[.agg #[.pointer (some ⟨21, 200, none⟩)]]).run Tryz.prog w = .ok (.bool true) w := by kernel_rfl
theorem Tryz.mComparable (v : Value) (w : World) : (Go.method (Tryz.prog.types.size + Made.depth) 156 v "Comparable").run Tryz.prog w = .ok (169, v) w := by kernel_rfl
theorem Tryz.mElem (v : Value) (w : World) : (Go.method (Tryz.prog.types.size + Made.depth) 156 v "Elem").run Tryz.prog w = .ok (170, v) w := by kernel_rfl
theorem Tryz.mImplements (v : Value) (w : World) : (Go.method (Tryz.prog.types.size + Made.depth) 156 v "Implements").run Tryz.prog w = .ok (171, v) w := by kernel_rfl
theorem Tryz.mAssignableTo (v : Value) (w : World) : (Go.method (Tryz.prog.types.size + Made.depth) 156 v "AssignableTo").run Tryz.prog w = .ok (168, v) w := by kernel_rfl
theorem Tryz.compI : (Tryz.prog.info? 200).map (·.comparable)=some true:=by kernel_rfl
theorem Tryz.sizeI : (Tryz.prog.info? 221).map (·.size)=some 1:=by kernel_rfl
theorem Tryz.noIs {A : Nat → Addr} {w0 : World} {u : Value} {e : ErrM} (h : IsE A w0 u e) (hn : e ≠ .nil) (w : World) : (Instr.typeAssert u 39 158 true).run Tryz.prog w=.ok (.tuple #[.nilIface,.bool false]) w:=by
  obtain⟨x,rfl⟩:=h.type hn;cases e.isAt with
  | true=>exact run_typeAssert_lacksB Tryz.underlying158 (by kernel_rfl) (by kernel_rfl) _ _ w
  | false=>exact run_typeAssert_lacksB Tryz.underlying158 (by kernel_rfl) (by kernel_rfl) _ _ w
theorem Tryz.noUns {A : Nat → Addr} {w0 : World} {u : Value} {e : ErrM} (h : IsE A w0 u e) (hn : e ≠ .nil) (w : World) : (Instr.typeAssert u 39 163 true).run Tryz.prog w=.ok (.tuple #[.nilIface,.bool false]) w:=by
  obtain⟨x,rfl⟩:=h.type hn;cases e.isAt with
  | true=>exact run_typeAssert_lacksB Tryz.underlying163 (by kernel_rfl) (by kernel_rfl) _ _ w
  | false=>exact run_typeAssert_lacksB Tryz.underlying163 (by kernel_rfl) (by kernel_rfl) _ _ w
theorem Tryz.noAs {A : Nat → Addr} {w0 : World} {u : Value} {e : ErrM} (h : IsE A w0 u e) (hn : e ≠ .nil) (w : World) : (Instr.typeAssert u 39 173 true).run Tryz.prog w=.ok (.tuple #[.nilIface,.bool false]) w:=by
  obtain⟨x,rfl⟩:=h.type hn;cases e.isAt with
  | true=>exact run_typeAssert_lacksB Tryz.underlying173 (by kernel_rfl) (by kernel_rfl) _ _ w
  | false=>exact run_typeAssert_lacksB Tryz.underlying173 (by kernel_rfl) (by kernel_rfl) _ _ w
theorem Tryz.un {A : Nat → Addr} {w0 : World} {u : Value} {e : ErrM} (h : IsE A w0 u e) (hn : e ≠ .nil) (w : World) : (Instr.typeAssert u 39 161 true).run Tryz.prog w=.ok (.tuple #[bif e.isAt then u else .nilIface,.bool e.isAt]) w:=by
  obtain⟨x,rfl⟩:=h.type hn;cases e.isAt with
  | true=>exact run_typeAssert_hasB Tryz.underlying161 (by kernel_rfl) _ _ w
  | false=>exact run_typeAssert_lacksB Tryz.underlying161 (by kernel_rfl) (by kernel_rfl) _ _ w
theorem Tryz.callTO (v : Value) (w : World) : (callFunc 73 #[.iface 200 v]).run Tryz.prog w=.ok (.value (.iface 156 (.agg #[.pointer (some ⟨21,200,none⟩)]))) w:=by
  rw [@run_callFunc_extern Tryz.prog 73 _ Extern.ReflectliteType.typeOf Tryz.func73 (by kernel_rfl) (by kernel_rfl) (by kernel_rfl) (by kernel_rfl),Tryz.typeOfE];rfl
theorem Tryz.callTA (v : Value) (w : World) : (callFunc 73 #[.iface 118 v]).run Tryz.prog w=.ok (.value (.iface 156 (.agg #[.pointer (some ⟨21,118,none⟩)]))) w:=by
  rw [@run_callFunc_extern Tryz.prog 73 _ Extern.ReflectliteType.typeOf Tryz.func73 (by kernel_rfl) (by kernel_rfl) (by kernel_rfl) (by kernel_rfl),Tryz.typeOfA];rfl
theorem Tryz.callCm (w : World) : (callFunc 169 #[.agg #[.pointer (some ⟨21, 200, none⟩)]]).run Tryz.prog w = .ok (.value (.bool true)) w := by
  have h := @run_callFunc_extern Tryz.prog 169 _ (Extern.ReflectliteType.method fun t => do Extern.Rtype.noPackHeld "Comparable" t; pure (.bool (← typeInfo t).comparable)) Tryz.func169 (by kernel_rfl) (by kernel_rfl) (by kernel_rfl) (by kernel_rfl);rw [h];exact congrArg (fun r : Result Value => r.andThen fun v w1 => Result.ok (Next.value v) w1) (Tryz.compE w)
theorem Zs4 {w : World} {b : Nat} {u : Value} (h : w.cell? ⟨b,1,none⟩=some u) : Calls Tryz.prog 163 [.pointer (some ⟨b,0,none⟩)].toArray w (Ret fun r w'=>r=u ∧ Ext w w'):=by
  refine enter Tryz.func163 rfl rfl rfl ?_;intro a H;dsimp only [Zhr,Nat.zero_add,Nat.reduceAdd] at H;refine wp_seq ?_;refine wp_region_lit ?_;refine n_q H (Zb rfl) rfl ?_;clear H a;intro a H;refine Qq ?_;refine Zd ?_;refine wp_seq ?_;refine wp_region_lit ?_;refine n_q H (Zc rfl) rfl ?_;clear H a;intro a H;refine n_q H (Zk3 rfl) rfl ?_;clear H a;intro a H;refine n_q H (Zo rfl Zux) rfl ?_;clear H a;intro a H;refine n_q H (Ze rfl (LdX.one Zdl (show w.cell? ((⟨b,0,none⟩ : Addr).add 1)=some u by rw [Yx];exact h))) rfl ?_;clear H a;intro a H;refine n_q H (Zb rfl) rfl ?_;clear H a;intro a H;refine Qq ?_;refine Zd ?_;refine wp_ret ?_;refine Qg H (.inr rfl) rfl rfl ?_;exact⟨rfl,Ext.rfl'⟩
theorem Zs5 {e e0 : ErrM} {g : Nat} (hgg : e.g? = e0.g?) (h : e.isV g=true) : decide (e0.g? = some g)=true:=by
  cases e with
  | v g'=>
    have h' : g' = g:=by simpa [ErrM.isV] using h
    subst h';exact decide_eq_true (hgg.symm : e0.g? = some g')
  | nil=>cases h
  | pl p g'=>cases h
theorem Zq8 {e e0 : ErrM} {g : Nat} (hgg : e.g? = e0.g?) (hn : e ≠ .nil) (ha : e.isAt=false) (h : e.isV g=false) : decide (e0.g? = some g)=false:=by
  cases e with
  | v g'=>
    have h' : ¬ g' = g:=by simpa [ErrM.isV] using h
    have e1 : e0.g? = some g':=hgg.symm;exact decide_eq_false (by rw [e1];simpa using h')
  | nil=>exact absurd rfl hn
  | pl p g'=>cases ha
theorem is_in {w : World} {A : Nat → Addr} {v0 : Value} {e0 : ErrM} {g : Nat} (hG : EV A w) (h : IsE A w v0 e0) (hg : g ∈ Zs2) (hn : e0 ≠ .nil) :
    Calls Tryz.prog 74 [v0,sv 200 A g,.bool true].toArray w (Ret fun r w'=>r=.bool (decide (e0.g? = some g)) ∧ Ext w w'):=by
  obtain⟨i,hi,hcmp⟩:=Option.map_eq_some_iff.1 Tryz.compI;obtain⟨j,hj,hjs⟩:=Option.map_eq_some_iff.1 Tryz.sizeI;refine enter Tryz.func74 rfl rfl rfl ?_;intro a H;dsimp only [Zhr,Nat.zero_add,Nat.reduceAdd] at H;refine wp_seq ?_;refine wp_region_lit ?_;refine n_q H (Zb rfl) rfl ?_;clear H a;intro a H;refine Qq ?_;refine Zd ?_;refine wp_block ?_;refine Qm (σ:=ErrM × Value) (fun (e,v)=>[(0,v),(1,sv 200 A g),(2,.bool true)]) (fun (e,v) wl=>IsE A wl v e ∧ e ≠ .nil ∧ e.g? = e0.g? ∧ Ext w wl) (fun (e,v)=>e.depth) (e0,v0) H ⟨rfl,rfl,rfl,trivial⟩ ⟨h,hn,rfl,Ext.rfl'⟩ ?_;clear H;clear a;intro xx a w1 H hR;obtain⟨e,v⟩:=xx;simp only [ent,List.map_cons,List.map_nil] at H
  try dsimp only at hR
  obtain⟨hv,hne,hgg,hE2⟩:=hR;have hX:=hE2;have hY3:=hE2;have hv' : IsE A _ v e:=hv;refine wp_block ?_;refine wp_seq ?_;refine wp_seq ?_;refine wp_region_lit ?_;refine n_c H (fun HC=>?_);clear H;refine Ti HC (Zc rfl) rfl (by kernel_rfl) ?_;clear HC a;intro a HC;refine Ti HC (Zc rfl) rfl (by kernel_rfl) ?_;clear HC a;intro a HC;refine Zem HC (Zc rfl) (by kernel_rfl) (by kernel_rfl) (by kernel_rfl) ?_;clear HC a;intro a HC;refine Zem HC (Zc rfl) (by kernel_rfl) (by kernel_rfl) (by kernel_rfl) ?_;clear HC a;intro a HC;refine Zem HC (Zpe (hG.ext hX) (hv.ext Ext.rfl') hg Tryz.neAE Tryz.underlying39 Tryz.underlying200 hi hcmp hj (by rw [hjs];decide) rfl rfl) (by kernel_rfl) (by kernel_rfl) (by kernel_rfl) ?_;clear HC a;intro a HC;refine Zo6 (j:=1) HC rfl rfl rfl (by kernel_rfl) (by kernel_rfl) ?_;clear HC a;intro a HC;have H:=HC.has;clear HC;refine Qq ?_;refine Zd ?_;refine Zk H rfl (fun hc19=>?_) (fun hc19=>?_)
  · skip
    have q19 : e.isV g=true:=by simpa using hc19
    refine wp_seq ?_;refine wp_region_lit ?_;refine n_q H (Zb rfl) rfl ?_;clear H a;intro a H;refine Qq ?_;refine Zd ?_;refine wp_ret ?_;refine Zf ?_;refine Zg ?_;refine Zf ?_;refine Zg ?_;refine Qg H (.inr rfl) rfl rfl ?_;exact⟨congrArg Value.bool (Zs5 hgg q19).symm,hX⟩
  · skip
    have q19 : e.isV g=false:=by simpa using hc19
    refine wp_skip ?_;refine Zd ?_;refine wp_seq ?_;refine wp_seq ?_;refine wp_region_lit ?_;refine n_q H (Zc rfl) rfl ?_;clear H a;intro a H;refine n_q H (Zep rfl (Tryz.noIs hv hne)) rfl ?_;clear H a;intro a H;refine n_q H (Zc rfl) rfl ?_;clear H a;intro a H;refine n_q H (Qb rfl rfl) rfl ?_;clear H a;intro a H;refine n_q H (Qb rfl rfl) rfl ?_;clear H a;intro a H;refine n_q H (Zb rfl) rfl ?_;clear H a;intro a H;refine n_q H (Zb rfl) rfl ?_;clear H a;intro a H;refine Qq ?_;refine Zd ?_;refine wp_seq ?_;refine wp_region_lit ?_;refine n_c H (fun HC=>?_);clear H;refine Ti HC (Zc rfl) rfl (by kernel_rfl) ?_;clear HC a;intro a HC;refine Ti HC (Zc rfl) rfl (by kernel_rfl) ?_;clear HC a;intro a HC;refine Zem HC (Zc rfl) (by kernel_rfl) (by kernel_rfl) (by kernel_rfl) ?_;clear HC a;intro a HC;refine Zem HC (Zc rfl) (by kernel_rfl) (by kernel_rfl) (by kernel_rfl) ?_;clear HC a;intro a HC;refine nc_no HC rfl rfl (by decide) (by kernel_rfl) (by kernel_rfl) (by kernel_rfl) ?_;clear HC a;intro a HC;refine Ti HC (Zq rfl rfl) rfl (by kernel_rfl) ?_;clear HC a;intro a HC;have H:=HC.has;clear HC;refine Qq ?_;refine Zd ?_;refine Zk H rfl (fun hc30=>?_) (fun hc30=>?_)
    · skip
      cases hc30
    · skip
      refine wp_skip ?_;refine Zd ?_;refine wp_seq ?_;refine wp_region_lit ?_;refine n_q H (Zc rfl) rfl ?_;clear H a;intro a H;refine Qq ?_;refine Zd ?_;refine wp_block ?_;refine wp_seq ?_;refine wp_region_lit ?_;refine n_q H (Zep rfl (Tryz.un hv hne)) rfl ?_;clear H a;intro a H;refine n_q H (Qb rfl rfl) rfl ?_;clear H a;intro a H;refine n_q H (Qb rfl rfl) rfl ?_;clear H a;intro a H;refine Qq ?_;refine Zd ?_;refine Zk H rfl (fun hc33=>?_) (fun hc33=>?_)
      · skip
        obtain⟨p1,g1,rfl⟩ : ∃ p g,e=.pl p g:=by cases e <;> simp [ErrM.isAt] at hc33 ⊢
        have hv1:=hv';obtain⟨hg1,b1,rfl,hc0,hc1⟩:=hv';replace hc1:=Zhq hc1 (Ext.rfl');refine wp_seq ?_;refine wp_region_lit ?_;refine n_q H (Zb rfl) rfl ?_;clear H a;intro a H;refine Qq ?_;refine Zd ?_;refine wp_seq ?_;refine wp_region_lit ?_;refine n_q H (Zc rfl) rfl ?_;clear H a;intro a H;refine n_inv H rfl (fun w=>by kernel_rfl) en163 (Zs4 hc1) rfl ?_;clear H;intro r w9 hr a H;obtain⟨rfl,hE9⟩:=hr;replace hX:=Ext.trans' hX hE9;replace hY3:=Ext.trans' hY3 hE9;refine n_q H (Zb rfl) rfl ?_;clear H a;intro a H;refine Qq ?_;refine Zd ?_;refine wp_seq ?_;refine wp_region_lit ?_;refine n_q H (Zc rfl) rfl ?_;clear H a;intro a H;refine n_q H (Ziq Tryz.underlying39 rfl rfl (.inr ⟨_,_,rfl⟩)) rfl ?_;clear H a;intro a H;refine Qq ?_;refine Zd ?_;refine Zk H rfl (fun hc38=>?_) (fun hc38=>?_)
        · skip
          exact absurd hc38 (by simp [sv,Zg1])
        · skip
          refine wp_skip ?_;refine Zj ?_;refine Zj ?_;refine Zd ?_;exact Xp (.v g1,sv 200 A g1) H ⟨rfl,rfl,rfl,trivial⟩ ⟨⟨hv1.1,rfl⟩,by simp,hgg,hY3⟩ (by simp [ErrM.depth])
      · skip
        refine wp_seq ?_;refine wp_region_lit ?_;refine n_q H (Zep rfl (Tryz.noUns hv hne)) rfl ?_;clear H a;intro a H;refine n_q H (Qb rfl rfl) rfl ?_;clear H a;intro a H;refine n_q H (Qb rfl rfl) rfl ?_;clear H a;intro a H;refine Qq ?_;refine Zd ?_;refine Zk H rfl (fun hc40=>?_) (fun hc40=>?_)
        · skip
          cases hc40
        · skip
          refine wp_seq ?_;refine wp_region_lit ?_;refine n_q H (Zb rfl) rfl ?_;clear H a;intro a H;refine Qq ?_;refine Zd ?_;refine wp_seq ?_;refine wp_region_lit ?_;refine n_q H (Zb rfl) rfl ?_;clear H a;intro a H;refine Qq ?_;refine Zd ?_;refine wp_ret ?_;refine Zg ?_;refine Zg ?_;refine Zf ?_;refine Zg ?_;refine Qg H (.inr rfl) rfl rfl ?_;exact⟨congrArg Value.bool (Zq8 hgg hne hc33 q19).symm,hX⟩
theorem Zkh {w : World} {A : Nat → Addr} {v0 : Value} {e0 : ErrM} {g : Nat} (hG : EV A w) (h : IsE A w v0 e0) (hg : g ∈ Zs2) :
    Calls Tryz.prog 50 [v0,sv 200 A g].toArray w (Ret fun r w'=>r=.bool (decide (e0.g? = some g)) ∧ Ext w w'):=by
  obtain⟨i,hi,hcmp⟩:=Option.map_eq_some_iff.1 Tryz.compI;obtain⟨j,hj,hjs⟩:=Option.map_eq_some_iff.1 Tryz.sizeI;refine enter Tryz.func50 rfl rfl rfl ?_;intro a H;dsimp only [Zhr,Nat.zero_add,Nat.reduceAdd] at H;refine wp_seq ?_;refine wp_region_lit ?_;refine n_q H (Zb rfl) rfl ?_;clear H a;intro a H;refine Qq ?_;refine Zd ?_;refine wp_seq ?_;refine wp_seq ?_;refine wp_region_lit ?_;refine n_c H (fun HC=>?_);clear H;refine Ti HC (Zc rfl) rfl (by kernel_rfl) ?_;clear HC a;intro a HC;refine Ti HC (Ziq Tryz.underlying39 rfl rfl h.form) rfl (by kernel_rfl) ?_;clear HC a;intro a HC;refine Ti HC (Zc rfl) rfl (by kernel_rfl) ?_;clear HC a;intro a HC;refine Zem HC (Zc rfl) (by kernel_rfl) (by kernel_rfl) (by kernel_rfl) ?_;clear HC a;intro a HC;refine Zem HC (Ziq Tryz.underlying39 rfl rfl (.inr ⟨_,_,rfl⟩)) (by kernel_rfl) (by kernel_rfl) (by kernel_rfl) ?_;clear HC a;intro a HC;refine Zlm (j:=2) HC rfl rfl rfl (by kernel_rfl) (by kernel_rfl) ?_;clear HC a;intro a HC;have H:=HC.has;clear HC;refine Qq ?_;refine Zd ?_;refine Zk H rfl (fun hc11=>?_) (fun hc11=>?_)
  · skip
    have q11 : e0=.nil:=by rw [h.isNil] at hc11;simpa [sv,Zg1] using hc11
    subst q11;refine wp_seq ?_;refine wp_region_lit ?_;refine n_q H (Zc rfl) rfl ?_;clear H a;intro a H;refine n_q H (Zc rfl) rfl ?_;clear H a;intro a H;refine n_q H (Zpe (hG.ext Ext.rfl') (h.ext Ext.rfl') hg Tryz.neAE Tryz.underlying39 Tryz.underlying200 hi hcmp hj (by rw [hjs];decide) rfl rfl) rfl ?_;clear H a;intro a H;refine n_q H (Zb rfl) rfl ?_;clear H a;intro a H;refine Qq ?_;refine Zd ?_;refine wp_ret ?_;refine Zf ?_;refine Qg H (.inr rfl) rfl rfl ?_;exact⟨by simp [ErrM.isV,ErrM.g?],Ext.rfl'⟩
  · skip
    have q11 : e0 ≠ .nil:=by rw [h.isNil] at hc11;simpa [sv,Zg1] using hc11
    refine wp_skip ?_;refine Zd ?_;refine wp_seq ?_;refine wp_region_lit ?_;refine n_q H (Zc rfl) rfl ?_;clear H a;intro a H;refine n_q H (Zm0 rfl rfl (fun w _=>Tryz.callTO _ w)) rfl ?_;clear H a;intro a H;refine n_q H (Zpd rfl (Tryz.mComparable _) (fun w _=>Tryz.callCm w)) rfl ?_;clear H a;intro a H;refine n_q H (Zb rfl) rfl ?_;clear H a;intro a H;refine Qq ?_;refine Zd ?_;refine wp_seq ?_;refine wp_region_lit ?_;refine n_q H (Zc rfl) rfl ?_;clear H a;intro a H;refine n_q H (Zc rfl) rfl ?_;clear H a;intro a H;refine n_q H (Zc rfl) rfl ?_;clear H a;intro a H;refine Zw H rfl en74 (is_in (hG.ext Ext.rfl') (h.ext Ext.rfl') hg q11) rfl ?_;clear H a;intro v3 w1 hv a H;obtain⟨rfl,hE2⟩:=hv;have hX:=hE2;refine n_q H (Zb rfl) rfl ?_;clear H a;intro a H;refine Qq ?_;refine Zd ?_;refine wp_ret ?_;refine Qg H (.inr rfl) rfl rfl ?_;exact⟨rfl,hX⟩
theorem Zs6 {A : Nat → Addr} {w : World} {v : Value} {e : ErrM} (h : IsE A w v e) (hn : e ≠ .nil) (h0 : ¬ e.g? = some 5 ∧ ¬ e.g? = some 6 ∧ ¬ e.g? = some 7 ∧ ¬ e.g? = some 8 ∧ ¬ e.g? = some 9 ∧ ¬ e.g? = some 10 ∧ ¬ e.g? = some 11 ∧ ¬ e.g? = some 4 ∧ ¬ e.g? = some 3 ∧ ¬ e.g? = some 0) (h1 : ¬ e.g? = some 12 ∧ ¬ e.g? = some 2 ∧ ¬ e.g? = some 1 ∧ ¬ e.g? = some 13 ∧ ¬ e.g? = some 14 ∧ ¬ e.g? = some 15 ∧ ¬ e.g? = some 16 ∧ ¬ e.g? = some 17 ∧ ¬ e.g? = some 18 ∧ ¬ e.g? = some 19) : False:=by
  obtain⟨g,hg,hm⟩ : ∃ g,e.g? = some g ∧ g ∈ Zs2:=by
    cases e with
    | nil=>exact absurd rfl hn
    | v g=>exact⟨g,rfl,h.1⟩
    | pl p g=>exact⟨g,rfl,h.1⟩
  simp only [hg,Option.some.injEq] at h0 h1;simp only [Zs2,List.mem_cons,List.not_mem_nil,or_false] at hm;omega
theorem Uh {e : ErrM} {g : Nat} (h : decide (e.g? = some g)=true) : e.code=Zs3 g:=by
  have : e.g? = some g:=of_decide_eq_true h;simp [ErrM.code,this]
set_option maxHeartbeats 2000000 in
theorem Zuy {w : World} {A : Nat → Addr} {v0 : Value} {e : ErrM} (hG : EV A w) (h : IsE A w v0 e) (hn : e ≠ .nil) (h0 : ¬ e.g? = some 5 ∧ ¬ e.g? = some 6 ∧ ¬ e.g? = some 7 ∧ ¬ e.g? = some 8 ∧ ¬ e.g? = some 9 ∧ ¬ e.g? = some 10 ∧ ¬ e.g? = some 11 ∧ ¬ e.g? = some 4 ∧ ¬ e.g? = some 3 ∧ ¬ e.g? = some 0) :
    Calls Tryz.prog 59 [v0].toArray w (Ret fun r w'=>r=.int .i64 e.code ∧ Ext w w'):=by
  refine enter Tryz.func59 rfl rfl rfl ?_;intro a H;dsimp only [Zhr,Nat.zero_add,Nat.reduceAdd] at H;refine wp_seq ?_;refine wp_region_lit ?_;refine n_q H (Zb rfl) rfl ?_;clear H a;intro a H;refine Qq ?_;refine Zd ?_;refine wp_seq ?_;refine wp_block ?_;refine wp_seq ?_;refine wp_region_lit ?_;refine n_q H (Zc rfl) rfl ?_;clear H a;intro a H;refine n_q H (Ze rfl (hG.ld 12 (by decide) Zdl |>.ext Ext.rfl')) rfl ?_;clear H a;intro a H;refine Zw H rfl Zkg (Zkh (g:=12) (hG.ext Ext.rfl') (h.ext Ext.rfl') (by decide)) rfl ?_;clear H a;intro v3 w1 hv a H;obtain⟨rfl,hE2⟩:=hv;have hX:=hE2;refine n_q H (Zb rfl) rfl ?_;clear H a;intro a H;refine Qq ?_;refine Zd ?_;refine Zk H rfl (fun hc3=>?_) (fun hc3=>?_)
  · skip
    refine wp_seq ?_;refine wp_region_lit ?_;refine n_q H (Zb rfl) rfl ?_;clear H a;intro a H;refine Qq ?_;refine Zd ?_;refine wp_ret ?_;refine Zg ?_;refine Zf ?_;refine Qg H (.inr rfl) rfl rfl ?_;exact⟨congrArg (Value.int .i64) (Uh hc3).symm,hX⟩
  · skip
    refine wp_seq ?_;refine wp_region_lit ?_;refine n_q H (Zc rfl) rfl ?_;clear H a;intro a H;refine n_q H (Ze rfl (hG.ld 2 (by decide) Zdl |>.ext hX)) rfl ?_;clear H a;intro a H;refine Zw H rfl Zkg (Zkh (g:=2) (hG.ext hX) (h.ext hX) (by decide)) rfl ?_;clear H a;intro v6 w4 hv a H;obtain⟨rfl,hE5⟩:=hv;replace hX:=Ext.trans' hX hE5;refine n_q H (Zb rfl) rfl ?_;clear H a;intro a H;refine Qq ?_;refine Zd ?_;refine Zk H rfl (fun hc7=>?_) (fun hc7=>?_)
    · skip
      refine wp_seq ?_;refine wp_region_lit ?_;refine n_q H (Zb rfl) rfl ?_;clear H a;intro a H;refine Qq ?_;refine Zd ?_;refine wp_ret ?_;refine Zg ?_;refine Zf ?_;refine Qg H (.inr rfl) rfl rfl ?_;exact⟨congrArg (Value.int .i64) (Uh hc7).symm,hX⟩
    · skip
      refine wp_seq ?_;refine wp_region_lit ?_;refine n_q H (Zc rfl) rfl ?_;clear H a;intro a H;refine n_q H (Ze rfl (hG.ld 1 (by decide) Zdl |>.ext hX)) rfl ?_;clear H a;intro a H;refine Zw H rfl Zkg (Zkh (g:=1) (hG.ext hX) (h.ext hX) (by decide)) rfl ?_;clear H a;intro v9 w7 hv a H;obtain⟨rfl,hE8⟩:=hv;replace hX:=Ext.trans' hX hE8;refine n_q H (Zb rfl) rfl ?_;clear H a;intro a H;refine Qq ?_;refine Zd ?_;refine Zk H rfl (fun hc11=>?_) (fun hc11=>?_)
      · skip
        refine wp_seq ?_;refine wp_region_lit ?_;refine n_q H (Zb rfl) rfl ?_;clear H a;intro a H;refine Qq ?_;refine Zd ?_;refine wp_ret ?_;refine Zg ?_;refine Zf ?_;refine Qg H (.inr rfl) rfl rfl ?_;exact⟨congrArg (Value.int .i64) (Uh hc11).symm,hX⟩
      · skip
        refine wp_seq ?_;refine wp_region_lit ?_;refine n_q H (Zc rfl) rfl ?_;clear H a;intro a H;refine n_q H (Ze rfl (hG.ld 13 (by decide) Zdl |>.ext hX)) rfl ?_;clear H a;intro a H;refine Zw H rfl Zkg (Zkh (g:=13) (hG.ext hX) (h.ext hX) (by decide)) rfl ?_;clear H a;intro v12 w10 hv a H;obtain⟨rfl,hE11⟩:=hv;replace hX:=Ext.trans' hX hE11;refine n_q H (Zb rfl) rfl ?_;clear H a;intro a H;refine Qq ?_;refine Zd ?_;refine Zk H rfl (fun hc15=>?_) (fun hc15=>?_)
        · skip
          refine wp_seq ?_;refine wp_region_lit ?_;refine n_q H (Zb rfl) rfl ?_;clear H a;intro a H;refine Qq ?_;refine Zd ?_;refine wp_ret ?_;refine Zg ?_;refine Zf ?_;refine Qg H (.inr rfl) rfl rfl ?_;exact⟨congrArg (Value.int .i64) (Uh hc15).symm,hX⟩
        · skip
          refine wp_seq ?_;refine wp_region_lit ?_;refine n_q H (Zc rfl) rfl ?_;clear H a;intro a H;refine n_q H (Ze rfl (hG.ld 14 (by decide) Zdl |>.ext hX)) rfl ?_;clear H a;intro a H;refine Zw H rfl Zkg (Zkh (g:=14) (hG.ext hX) (h.ext hX) (by decide)) rfl ?_;clear H a;intro v15 w13 hv a H;obtain⟨rfl,hE14⟩:=hv;replace hX:=Ext.trans' hX hE14;refine n_q H (Zb rfl) rfl ?_;clear H a;intro a H;refine Qq ?_;refine Zd ?_;refine Zk H rfl (fun hc19=>?_) (fun hc19=>?_)
          · skip
            refine wp_seq ?_;refine wp_region_lit ?_;refine n_q H (Zb rfl) rfl ?_;clear H a;intro a H;refine Qq ?_;refine Zd ?_;refine wp_ret ?_;refine Zg ?_;refine Zf ?_;refine Qg H (.inr rfl) rfl rfl ?_;exact⟨congrArg (Value.int .i64) (Uh hc19).symm,hX⟩
          · skip
            refine wp_seq ?_;refine wp_region_lit ?_;refine n_q H (Zc rfl) rfl ?_;clear H a;intro a H;refine n_q H (Ze rfl (hG.ld 15 (by decide) Zdl |>.ext hX)) rfl ?_;clear H a;intro a H;refine Zw H rfl Zkg (Zkh (g:=15) (hG.ext hX) (h.ext hX) (by decide)) rfl ?_;clear H a;intro v18 w16 hv a H;obtain⟨rfl,hE17⟩:=hv;replace hX:=Ext.trans' hX hE17;refine n_q H (Zb rfl) rfl ?_;clear H a;intro a H;refine Qq ?_;refine Zd ?_;refine Zk H rfl (fun hc23=>?_) (fun hc23=>?_)
            · skip
              refine wp_seq ?_;refine wp_region_lit ?_;refine n_q H (Zb rfl) rfl ?_;clear H a;intro a H;refine Qq ?_;refine Zd ?_;refine wp_ret ?_;refine Zg ?_;refine Zf ?_;refine Qg H (.inr rfl) rfl rfl ?_;exact⟨congrArg (Value.int .i64) (Uh hc23).symm,hX⟩
            · skip
              refine wp_seq ?_;refine wp_region_lit ?_;refine n_q H (Zc rfl) rfl ?_;clear H a;intro a H;refine n_q H (Ze rfl (hG.ld 16 (by decide) Zdl |>.ext hX)) rfl ?_;clear H a;intro a H;refine Zw H rfl Zkg (Zkh (g:=16) (hG.ext hX) (h.ext hX) (by decide)) rfl ?_;clear H a;intro v21 w19 hv a H;obtain⟨rfl,hE20⟩:=hv;replace hX:=Ext.trans' hX hE20;refine n_q H (Zb rfl) rfl ?_;clear H a;intro a H;refine Qq ?_;refine Zd ?_;refine Zk H rfl (fun hc27=>?_) (fun hc27=>?_)
              · skip
                refine wp_seq ?_;refine wp_region_lit ?_;refine n_q H (Zb rfl) rfl ?_;clear H a;intro a H;refine Qq ?_;refine Zd ?_;refine wp_ret ?_;refine Zg ?_;refine Zf ?_;refine Qg H (.inr rfl) rfl rfl ?_;exact⟨congrArg (Value.int .i64) (Uh hc27).symm,hX⟩
              · skip
                refine wp_seq ?_;refine wp_region_lit ?_;refine n_q H (Zc rfl) rfl ?_;clear H a;intro a H;refine n_q H (Ze rfl (hG.ld 17 (by decide) Zdl |>.ext hX)) rfl ?_;clear H a;intro a H;refine Zw H rfl Zkg (Zkh (g:=17) (hG.ext hX) (h.ext hX) (by decide)) rfl ?_;clear H a;intro v24 w22 hv a H;obtain⟨rfl,hE23⟩:=hv;replace hX:=Ext.trans' hX hE23;refine n_q H (Zb rfl) rfl ?_;clear H a;intro a H;refine Qq ?_;refine Zd ?_;refine Zk H rfl (fun hc31=>?_) (fun hc31=>?_)
                · skip
                  refine wp_seq ?_;refine wp_region_lit ?_;refine n_q H (Zb rfl) rfl ?_;clear H a;intro a H;refine Qq ?_;refine Zd ?_;refine wp_ret ?_;refine Zg ?_;refine Zf ?_;refine Qg H (.inr rfl) rfl rfl ?_;exact⟨congrArg (Value.int .i64) (Uh hc31).symm,hX⟩
                · skip
                  refine wp_seq ?_;refine wp_region_lit ?_;refine n_q H (Zc rfl) rfl ?_;clear H a;intro a H;refine n_q H (Ze rfl (hG.ld 18 (by decide) Zdl |>.ext hX)) rfl ?_;clear H a;intro a H;refine Zw H rfl Zkg (Zkh (g:=18) (hG.ext hX) (h.ext hX) (by decide)) rfl ?_;clear H a;intro v27 w25 hv a H;obtain⟨rfl,hE26⟩:=hv;replace hX:=Ext.trans' hX hE26;refine n_q H (Zb rfl) rfl ?_;clear H a;intro a H;refine Qq ?_;refine Zd ?_;refine Zk H rfl (fun hc35=>?_) (fun hc35=>?_)
                  · skip
                    refine wp_seq ?_;refine wp_region_lit ?_;refine n_q H (Zb rfl) rfl ?_;clear H a;intro a H;refine Qq ?_;refine Zd ?_;refine wp_ret ?_;refine Zg ?_;refine Zf ?_;refine Qg H (.inr rfl) rfl rfl ?_;exact⟨congrArg (Value.int .i64) (Uh hc35).symm,hX⟩
                  · skip
                    refine wp_seq ?_;refine wp_region_lit ?_;refine n_q H (Zc rfl) rfl ?_;clear H a;intro a H;refine n_q H (Ze rfl (hG.ld 19 (by decide) Zdl |>.ext hX)) rfl ?_;clear H a;intro a H;refine Zw H rfl Zkg (Zkh (g:=19) (hG.ext hX) (h.ext hX) (by decide)) rfl ?_;clear H a;intro v30 w28 hv a H;obtain⟨rfl,hE29⟩:=hv;replace hX:=Ext.trans' hX hE29;refine n_q H (Zb rfl) rfl ?_;clear H a;intro a H;refine Qq ?_;refine Zd ?_;refine Zk H rfl (fun hc39=>?_) (fun hc39=>?_)
                    · skip
                      refine wp_seq ?_;refine wp_region_lit ?_;refine n_q H (Zb rfl) rfl ?_;clear H a;intro a H;refine Qq ?_;refine Zd ?_;refine wp_ret ?_;refine Zg ?_;refine Zf ?_;refine Qg H (.inr rfl) rfl rfl ?_;exact⟨congrArg (Value.int .i64) (Uh hc39).symm,hX⟩
                    · skip
                      refine wp_skip ?_;refine Zj ?_;refine Zd ?_;refine wp_seq ?_;refine wp_region_lit ?_;refine n_q H (Zb rfl) rfl ?_;clear H a;intro a H;refine Qq ?_;refine Zd ?_;refine wp_ret ?_;refine Qg H (.inr rfl) rfl rfl ?_;exfalso;exact Zs6 h hn h0 ⟨of_decide_eq_false hc3,of_decide_eq_false hc7,of_decide_eq_false hc11,of_decide_eq_false hc15,of_decide_eq_false hc19,of_decide_eq_false hc23,of_decide_eq_false hc27,of_decide_eq_false hc31,of_decide_eq_false hc35,of_decide_eq_false hc39⟩
set_option maxHeartbeats 2000000 in
theorem code_w {w : World} {A : Nat → Addr} {v0 : Value} {e : ErrM} (hG : EV A w) (h : IsE A w v0 e) :
    Calls Tryz.prog 42 [v0].toArray w (Ret fun r w'=>r=.int .i64 e.code ∧ Ext w w'):=by
  refine enter Tryz.func42 rfl rfl rfl ?_;intro a H;dsimp only [Zhr,Nat.zero_add,Nat.reduceAdd] at H;refine wp_seq ?_;refine wp_region_lit ?_;refine n_q H (Zb rfl) rfl ?_;clear H a;intro a H;refine Qq ?_;refine Zd ?_;refine wp_seq ?_;refine wp_block ?_;refine wp_seq ?_;refine wp_region_lit ?_;refine n_q H (Zc rfl) rfl ?_;clear H a;intro a H;refine n_q H (Ziq Tryz.underlying39 rfl rfl h.form) rfl ?_;clear H a;intro a H;refine n_q H (Zb rfl) rfl ?_;clear H a;intro a H;refine Qq ?_;refine Zd ?_;refine Zk H rfl (fun hc3=>?_) (fun hc3=>?_)
  · skip
    have q0 : e=.nil:=by rw [h.isNil] at hc3;exact of_decide_eq_true hc3
    refine wp_seq ?_;refine wp_region_lit ?_;refine n_q H (Zb rfl) rfl ?_;clear H a;intro a H;refine Qq ?_;refine Zd ?_;refine wp_ret ?_;refine Zg ?_;refine Zf ?_;refine Qg H (.inr rfl) rfl rfl ?_;exact⟨by rw [q0];rfl,Ext.rfl'⟩
  · skip
    have q0 : e ≠ .nil:=by rw [h.isNil] at hc3;exact of_decide_eq_false hc3
    refine wp_seq ?_;refine wp_region_lit ?_;refine n_q H (Zc rfl) rfl ?_;clear H a;intro a H;refine n_q H (Ze rfl (hG.ld 5 (by decide) Zdl |>.ext Ext.rfl')) rfl ?_;clear H a;intro a H;refine Zw H rfl Zkg (Zkh (g:=5) (hG.ext Ext.rfl') (h.ext Ext.rfl') (by decide)) rfl ?_;clear H a;intro v3 w1 hv a H;obtain⟨rfl,hE2⟩:=hv;have hX:=hE2;refine n_q H (Zb rfl) rfl ?_;clear H a;intro a H;refine Qq ?_;refine Zd ?_;refine Zk H rfl (fun hc6=>?_) (fun hc6=>?_)
    · skip
      refine wp_seq ?_;refine wp_region_lit ?_;refine n_q H (Zb rfl) rfl ?_;clear H a;intro a H;refine Qq ?_;refine Zd ?_;refine wp_ret ?_;refine Zg ?_;refine Zf ?_;refine Qg H (.inr rfl) rfl rfl ?_;exact⟨congrArg (Value.int .i64) (Uh hc6).symm,hX⟩
    · skip
      refine wp_seq ?_;refine wp_region_lit ?_;refine n_q H (Zc rfl) rfl ?_;clear H a;intro a H;refine n_q H (Ze rfl (hG.ld 6 (by decide) Zdl |>.ext hX)) rfl ?_;clear H a;intro a H;refine Zw H rfl Zkg (Zkh (g:=6) (hG.ext hX) (h.ext hX) (by decide)) rfl ?_;clear H a;intro v6 w4 hv a H;obtain⟨rfl,hE5⟩:=hv;replace hX:=Ext.trans' hX hE5;refine n_q H (Zb rfl) rfl ?_;clear H a;intro a H;refine Qq ?_;refine Zd ?_;refine Zk H rfl (fun hc10=>?_) (fun hc10=>?_)
      · skip
        refine wp_seq ?_;refine wp_region_lit ?_;refine n_q H (Zb rfl) rfl ?_;clear H a;intro a H;refine Qq ?_;refine Zd ?_;refine wp_ret ?_;refine Zg ?_;refine Zf ?_;refine Qg H (.inr rfl) rfl rfl ?_;exact⟨congrArg (Value.int .i64) (Uh hc10).symm,hX⟩
      · skip
        refine wp_seq ?_;refine wp_region_lit ?_;refine n_q H (Zc rfl) rfl ?_;clear H a;intro a H;refine n_q H (Ze rfl (hG.ld 7 (by decide) Zdl |>.ext hX)) rfl ?_;clear H a;intro a H;refine Zw H rfl Zkg (Zkh (g:=7) (hG.ext hX) (h.ext hX) (by decide)) rfl ?_;clear H a;intro v9 w7 hv a H;obtain⟨rfl,hE8⟩:=hv;replace hX:=Ext.trans' hX hE8;refine n_q H (Zb rfl) rfl ?_;clear H a;intro a H;refine Qq ?_;refine Zd ?_;refine Zk H rfl (fun hc14=>?_) (fun hc14=>?_)
        · skip
          refine wp_seq ?_;refine wp_region_lit ?_;refine n_q H (Zb rfl) rfl ?_;clear H a;intro a H;refine Qq ?_;refine Zd ?_;refine wp_ret ?_;refine Zg ?_;refine Zf ?_;refine Qg H (.inr rfl) rfl rfl ?_;exact⟨congrArg (Value.int .i64) (Uh hc14).symm,hX⟩
        · skip
          refine wp_seq ?_;refine wp_region_lit ?_;refine n_q H (Zc rfl) rfl ?_;clear H a;intro a H;refine n_q H (Ze rfl (hG.ld 8 (by decide) Zdl |>.ext hX)) rfl ?_;clear H a;intro a H;refine Zw H rfl Zkg (Zkh (g:=8) (hG.ext hX) (h.ext hX) (by decide)) rfl ?_;clear H a;intro v12 w10 hv a H;obtain⟨rfl,hE11⟩:=hv;replace hX:=Ext.trans' hX hE11;refine n_q H (Zb rfl) rfl ?_;clear H a;intro a H;refine Qq ?_;refine Zd ?_;refine Zk H rfl (fun hc18=>?_) (fun hc18=>?_)
          · skip
            refine wp_seq ?_;refine wp_region_lit ?_;refine n_q H (Zb rfl) rfl ?_;clear H a;intro a H;refine Qq ?_;refine Zd ?_;refine wp_ret ?_;refine Zg ?_;refine Zf ?_;refine Qg H (.inr rfl) rfl rfl ?_;exact⟨congrArg (Value.int .i64) (Uh hc18).symm,hX⟩
          · skip
            refine wp_seq ?_;refine wp_region_lit ?_;refine n_q H (Zc rfl) rfl ?_;clear H a;intro a H;refine n_q H (Ze rfl (hG.ld 9 (by decide) Zdl |>.ext hX)) rfl ?_;clear H a;intro a H;refine Zw H rfl Zkg (Zkh (g:=9) (hG.ext hX) (h.ext hX) (by decide)) rfl ?_;clear H a;intro v15 w13 hv a H;obtain⟨rfl,hE14⟩:=hv;replace hX:=Ext.trans' hX hE14;refine n_q H (Zb rfl) rfl ?_;clear H a;intro a H;refine Qq ?_;refine Zd ?_;refine Zk H rfl (fun hc22=>?_) (fun hc22=>?_)
            · skip
              refine wp_seq ?_;refine wp_region_lit ?_;refine n_q H (Zb rfl) rfl ?_;clear H a;intro a H;refine Qq ?_;refine Zd ?_;refine wp_ret ?_;refine Zg ?_;refine Zf ?_;refine Qg H (.inr rfl) rfl rfl ?_;exact⟨congrArg (Value.int .i64) (Uh hc22).symm,hX⟩
            · skip
              refine wp_seq ?_;refine wp_region_lit ?_;refine n_q H (Zc rfl) rfl ?_;clear H a;intro a H;refine n_q H (Ze rfl (hG.ld 10 (by decide) Zdl |>.ext hX)) rfl ?_;clear H a;intro a H;refine Zw H rfl Zkg (Zkh (g:=10) (hG.ext hX) (h.ext hX) (by decide)) rfl ?_;clear H a;intro v18 w16 hv a H;obtain⟨rfl,hE17⟩:=hv;replace hX:=Ext.trans' hX hE17;refine n_q H (Zb rfl) rfl ?_;clear H a;intro a H;refine Qq ?_;refine Zd ?_;refine Zk H rfl (fun hc26=>?_) (fun hc26=>?_)
              · skip
                refine wp_seq ?_;refine wp_region_lit ?_;refine n_q H (Zb rfl) rfl ?_;clear H a;intro a H;refine Qq ?_;refine Zd ?_;refine wp_ret ?_;refine Zg ?_;refine Zf ?_;refine Qg H (.inr rfl) rfl rfl ?_;exact⟨congrArg (Value.int .i64) (Uh hc26).symm,hX⟩
              · skip
                refine wp_seq ?_;refine wp_region_lit ?_;refine n_q H (Zc rfl) rfl ?_;clear H a;intro a H;refine n_q H (Ze rfl (hG.ld 11 (by decide) Zdl |>.ext hX)) rfl ?_;clear H a;intro a H;refine Zw H rfl Zkg (Zkh (g:=11) (hG.ext hX) (h.ext hX) (by decide)) rfl ?_;clear H a;intro v21 w19 hv a H;obtain⟨rfl,hE20⟩:=hv;replace hX:=Ext.trans' hX hE20;refine n_q H (Zb rfl) rfl ?_;clear H a;intro a H;refine Qq ?_;refine Zd ?_;refine Zk H rfl (fun hc30=>?_) (fun hc30=>?_)
                · skip
                  refine wp_seq ?_;refine wp_region_lit ?_;refine n_q H (Zb rfl) rfl ?_;clear H a;intro a H;refine Qq ?_;refine Zd ?_;refine wp_ret ?_;refine Zg ?_;refine Zf ?_;refine Qg H (.inr rfl) rfl rfl ?_;exact⟨congrArg (Value.int .i64) (Uh hc30).symm,hX⟩
                · skip
                  refine wp_seq ?_;refine wp_region_lit ?_;refine n_q H (Zc rfl) rfl ?_;clear H a;intro a H;refine n_q H (Ze rfl (hG.ld 4 (by decide) Zdl |>.ext hX)) rfl ?_;clear H a;intro a H;refine Zw H rfl Zkg (Zkh (g:=4) (hG.ext hX) (h.ext hX) (by decide)) rfl ?_;clear H a;intro v24 w22 hv a H;obtain⟨rfl,hE23⟩:=hv;replace hX:=Ext.trans' hX hE23;refine n_q H (Zb rfl) rfl ?_;clear H a;intro a H;refine Qq ?_;refine Zd ?_;refine Zk H rfl (fun hc34=>?_) (fun hc34=>?_)
                  · skip
                    refine wp_seq ?_;refine wp_region_lit ?_;refine n_q H (Zb rfl) rfl ?_;clear H a;intro a H;refine Qq ?_;refine Zd ?_;refine wp_ret ?_;refine Zg ?_;refine Zf ?_;refine Qg H (.inr rfl) rfl rfl ?_;exact⟨congrArg (Value.int .i64) (Uh hc34).symm,hX⟩
                  · skip
                    refine wp_seq ?_;refine wp_region_lit ?_;refine n_q H (Zc rfl) rfl ?_;clear H a;intro a H;refine n_q H (Ze rfl (hG.ld 3 (by decide) Zdl |>.ext hX)) rfl ?_;clear H a;intro a H;refine Zw H rfl Zkg (Zkh (g:=3) (hG.ext hX) (h.ext hX) (by decide)) rfl ?_;clear H a;intro v27 w25 hv a H;obtain⟨rfl,hE26⟩:=hv;replace hX:=Ext.trans' hX hE26;refine n_q H (Zb rfl) rfl ?_;clear H a;intro a H;refine Qq ?_;refine Zd ?_;refine Zk H rfl (fun hc38=>?_) (fun hc38=>?_)
                    · skip
                      refine wp_seq ?_;refine wp_region_lit ?_;refine n_q H (Zb rfl) rfl ?_;clear H a;intro a H;refine Qq ?_;refine Zd ?_;refine wp_ret ?_;refine Zg ?_;refine Zf ?_;refine Qg H (.inr rfl) rfl rfl ?_;exact⟨congrArg (Value.int .i64) (Uh hc38).symm,hX⟩
                    · skip
                      refine wp_seq ?_;refine wp_region_lit ?_;refine n_q H (Zc rfl) rfl ?_;clear H a;intro a H;refine n_q H (Ze rfl (hG.ld 0 (by decide) Zdl |>.ext hX)) rfl ?_;clear H a;intro a H;refine Zw H rfl Zkg (Zkh (g:=0) (hG.ext hX) (h.ext hX) (by decide)) rfl ?_;clear H a;intro v30 w28 hv a H;obtain⟨rfl,hE29⟩:=hv;replace hX:=Ext.trans' hX hE29;refine n_q H (Zb rfl) rfl ?_;clear H a;intro a H;refine Qq ?_;refine Zd ?_;refine Zk H rfl (fun hc42=>?_) (fun hc42=>?_)
                      · skip
                        refine wp_seq ?_;refine wp_region_lit ?_;refine n_q H (Zb rfl) rfl ?_;clear H a;intro a H;refine Qq ?_;refine Zd ?_;refine wp_ret ?_;refine Zg ?_;refine Zf ?_;refine Qg H (.inr rfl) rfl rfl ?_;exact⟨congrArg (Value.int .i64) (Uh hc42).symm,hX⟩
                      · skip
                        refine wp_skip ?_;refine Zj ?_;refine Zd ?_;refine wp_seq ?_;refine wp_region_lit ?_;refine n_q H (Zc rfl) rfl ?_;clear H a;intro a H;refine Zw H rfl en59 (Zuy (hG.ext hX) (h.ext hX) q0 ⟨of_decide_eq_false hc6,of_decide_eq_false hc10,of_decide_eq_false hc14,of_decide_eq_false hc18,of_decide_eq_false hc22,of_decide_eq_false hc26,of_decide_eq_false hc30,of_decide_eq_false hc34,of_decide_eq_false hc38,of_decide_eq_false hc42⟩) rfl ?_;clear H a;intro v33 w31 hv a H;obtain⟨rfl,hE32⟩:=hv;replace hX:=Ext.trans' hX hE32;refine n_q H (Zb rfl) rfl ?_;clear H a;intro a H;refine Qq ?_;refine Zd ?_;refine wp_ret ?_;refine Qg H (.inr rfl) rfl rfl ?_;exact⟨rfl,hX⟩
theorem Tryz.mKind (h : Value) (w : World) : (Go.method (Tryz.prog.types.size + Made.depth) 156 (.agg #[h]) "Kind").run Tryz.prog w = .ok (159, h) w := by kernel_rfl
theorem Tryz.valueOfT (t : Addr) (w : World) : (ReflectliteValue.unpack (.iface 120 (.pointer (some t)))).run Tryz.prog w
    = .ok (.agg #[.pointer (some ⟨21,120,none⟩),.pointer (some ⟨w.heap.size,0,none⟩),.int .u64 150]) (w.alloc (.cells #[.pointer (some t)] 120)):=by kernel_rfl
theorem Tryz.valueOfA (t : Addr) (w : World) : (ReflectliteValue.unpack (.iface 118 (.pointer (some t)))).run Tryz.prog w
    = .ok (.agg #[.pointer (some ⟨21,118,none⟩),.pointer (some ⟨w.heap.size,0,none⟩),.int .u64 150]) (w.alloc (.cells #[.pointer (some t)] 118)):=by kernel_rfl
theorem Tryz.typeT (a : Addr) (w : World) : (ReflectliteValue.methodAny (ReflectliteValue.valueError "reflectlite.Value.Type" 0) (fun t _ _ _ => ReflectliteType.toType t) #[.agg #[.pointer (some ⟨21, 120, none⟩), .pointer (some a), .int .u64 150]]).run Tryz.prog w
    = .ok (.iface 156 (.agg #[.pointer (some ⟨21, 120, none⟩)])) w := by kernel_rfl
theorem Tryz.kindT (w : World) : ((ReflectliteType.abiMethod fun t=>(fun a : Nat=>Value.int IntKind.u8 (a : Int)) <$> Rtype.kind t) #[.pointer (some ⟨21,120,none⟩)]).run Tryz.prog w=.ok (.int .u8 22) w:=by kernel_rfl
theorem Tryz.kindA (w : World) : ((ReflectliteType.abiMethod fun t=>(fun a : Nat=>Value.int IntKind.u8 (a : Int)) <$> Rtype.kind t) #[.pointer (some ⟨21,118,none⟩)]).run Tryz.prog w=.ok (.int .u8 22) w:=by kernel_rfl
theorem rlm (z : Sem Value) (f : TypeId → Addr → Nat → Nat → Sem Value) (v : Value) :
    ReflectliteValue.method z f #[v]=(do match ← ReflectliteValue.parts v with | none=>z | some (t,a,fl)=>f t a fl (fl % 32)):=rfl
theorem Tryz.partsT (a : Addr) (w : World) : (ReflectliteValue.parts (.agg #[.pointer (some ⟨21,120,none⟩),.pointer (some a),.int .u64 150])).run Tryz.prog w=.ok (some (120,a,150)) w:=by kernel_rfl
theorem Tryz.isNilT (a p : Addr) (W : World) (ha : W.cell? a = some (.pointer (some p))) :
    (ReflectliteValue.method (ReflectliteValue.valueError "reflectlite.Value.IsNil" 0) ReflectliteValue.isNil #[.agg #[.pointer (some ⟨21, 120, none⟩), .pointer (some a), .int .u64 150]]).run Tryz.prog W = .ok (.bool false) W := by
  rw [rlm];simp only [Sem.run_bind, Tryz.partsT, Result.andThen];simp [ReflectliteValue.isNil, loadVar, isAgg, underlying, Tryz.underlying120, ha, Result.andThen]
theorem Tryz.elemT (w : World) : (ReflectliteType.method ReflectliteType.elem #[.agg #[.pointer (some ⟨21,120,none⟩)]]).run Tryz.prog w=.ok (.iface 156 (.agg #[.pointer (some ⟨21,118,none⟩)])) w:=by kernel_rfl
theorem Tryz.assignA (w : World) : (ReflectliteType.relation "AssignableTo" ReflectliteType.assignableTo #[.agg #[.pointer (some ⟨21, 118, none⟩)], .iface 156 (.agg #[.pointer (some ⟨21, 118, none⟩)])]).run Tryz.prog w = .ok (.bool true) w := by kernel_rfl
theorem Tryz.assignE (w : World) : (ReflectliteType.relation "AssignableTo" ReflectliteType.assignableTo #[.agg #[.pointer (some ⟨21, 200, none⟩)], .iface 156 (.agg #[.pointer (some ⟨21, 118, none⟩)])]).run Tryz.prog w = .ok (.bool false) w := by kernel_rfl
theorem Tryz.elemOfT (w : World) : (Rtype.elem? 120).run Tryz.prog w=.ok (some 118) w:=by kernel_rfl
theorem Tryz.mkA (p : Addr) (w : World) : (ReflectliteValue.mk 118 p ReflectliteValue.flagAddr).run Tryz.prog w=.ok (.agg #[.pointer (some ⟨21,118,none⟩),.pointer (some p),.int .u64 406]) w:=by kernel_rfl
theorem Tryz.elemVT (a p : Addr) (W : World) (ha : W.cell? a = some (.pointer (some p))) :
    (ReflectliteValue.method (ReflectliteValue.valueError "reflectlite.Value.Elem" 0) ReflectliteValue.elem #[.agg #[.pointer (some ⟨21, 120, none⟩), .pointer (some a), .int .u64 150]]).run Tryz.prog W
      = .ok (.agg #[.pointer (some ⟨21, 118, none⟩), .pointer (some p), .int .u64 406]) W := by
  rw [rlm];simp only [Sem.run_bind, Tryz.partsT, Result.andThen];simp [ReflectliteValue.elem, loadVar, isAgg, underlying, Tryz.underlying120, ha, Result.andThen, Tryz.elemOfT, Tryz.mkA]
theorem rls (v x : Value) : ReflectliteValue.set #[v, x] = (do
    let (some (dst, a, fl), some (src, b, _)) := (← ReflectliteValue.parts v, ← ReflectliteValue.parts x)
      | unsupported (.noEntry "extern/(internal/reflectlite.Value).Set.zeroValue")
    if fl / ReflectliteValue.flagAddr % 2 == 0 then unsupported (.noEntry "extern/(internal/reflectlite.Value).Set.unaddressable")
    let val ← loadVar src b
    if ← Rtype.directlyAssignable dst src then storeVar dst a val
    else if ← Rtype.implements dst src then
      if (← Rtype.kind src) == 20 then
        match val with
        | .nilIface => unsupported (.noEntry "extern/reflectlite: a nil value of one interface type handed on as a value of another")
        | _ => storeVar dst a val
      else storeVar dst a (.iface src val)
    else panicString ("reflectlite.Set: value of type " ++ (← Rtype.spelt src) ++ " is not assignable to type " ++ (← Rtype.spelt dst))
    pure (.tuple #[])) := rfl
theorem Tryz.partsAa (a : Addr) (w : World) : (ReflectliteValue.parts (.agg #[.pointer (some ⟨21,118,none⟩),.pointer (some a),.int .u64 406])).run Tryz.prog w=.ok (some (118,a,406)) w:=by kernel_rfl
theorem Tryz.partsA (a : Addr) (w : World) : (ReflectliteValue.parts (.agg #[.pointer (some ⟨21,118,none⟩),.pointer (some a),.int .u64 150])).run Tryz.prog w=.ok (some (118,a,150)) w:=by kernel_rfl
theorem Tryz.directA (w : World) : (Rtype.directlyAssignable 118 118).run Tryz.prog w=.ok true w:=by kernel_rfl
theorem Tryz.setA (ta b e : Addr) (old : Value) (W : World) (hb : W.cell? b=some (.pointer (some e))) (ht : W.cell? ta=some old) (hf : W.frozen? ta=false) :
    (ReflectliteValue.set #[.agg #[.pointer (some ⟨21,118,none⟩),.pointer (some ta),.int .u64 406],.agg #[.pointer (some ⟨21,118,none⟩),.pointer (some b),.int .u64 150]]).run Tryz.prog W
      = .ok (.tuple #[]) (W.setCell ta (.pointer (some e))):=by
  rw [rls];simp only [Sem.run_bind,Tryz.partsAa,Tryz.partsA,Result.andThen];simp [ReflectliteValue.flagAddr,loadVar,isAgg,underlying,Tryz.underlying118,hb,Result.andThen,Tryz.directA,storeVar,Value.cells,storeCells,Addr.add];rw [run_store Tryz.prog W ta _ _ (by rfl)];simp [ht,hf]
theorem Tryz.cVO (t : Addr) (w : World) : (callFunc 76 #[.iface 120 (.pointer (some t))]).run Tryz.prog w=.ok (.value (.agg #[.pointer (some ⟨21,120,none⟩),.pointer (some ⟨w.heap.size,0,none⟩),.int .u64 150])) (w.alloc (.cells #[.pointer (some t)] 120)):=by
  rw [@run_callFunc_extern Tryz.prog 76 _ (fun args=>ReflectliteValue.unpack (args.getD 0 (.tuple #[]))) Tryz.func76 (by kernel_rfl) (by kernel_rfl) (by kernel_rfl) (by kernel_rfl)];have hh:=Tryz.valueOfT t w;exact congrArg (fun r : Result Value=>r.andThen fun v w1=>Result.ok (Next.value v) w1) hh
theorem Tryz.cVA (t : Addr) (w : World) : (callFunc 76 #[.iface 118 (.pointer (some t))]).run Tryz.prog w=.ok (.value (.agg #[.pointer (some ⟨21,118,none⟩),.pointer (some ⟨w.heap.size,0,none⟩),.int .u64 150])) (w.alloc (.cells #[.pointer (some t)] 118)):=by
  rw [@run_callFunc_extern Tryz.prog 76 _ (fun args=>ReflectliteValue.unpack (args.getD 0 (.tuple #[]))) Tryz.func76 (by kernel_rfl) (by kernel_rfl) (by kernel_rfl) (by kernel_rfl)];have hh:=Tryz.valueOfA t w;exact congrArg (fun r : Result Value=>r.andThen fun v w1=>Result.ok (Next.value v) w1) hh
theorem Tryz.cTy (a : Addr) (w : World) : (callFunc 77 #[.agg #[.pointer (some ⟨21, 120, none⟩), .pointer (some a), .int .u64 150]]).run Tryz.prog w = .ok (.value (.iface 156 (.agg #[.pointer (some ⟨21, 120, none⟩)]))) w := by
  rw [@run_callFunc_extern Tryz.prog 77 _ (ReflectliteValue.methodAny (ReflectliteValue.valueError "reflectlite.Value.Type" 0) (fun t _ _ _ => ReflectliteType.toType t)) Tryz.func77 (by kernel_rfl) (by kernel_rfl) (by kernel_rfl) (by kernel_rfl)];have hh := Tryz.typeT a w;exact congrArg (fun r : Result Value => r.andThen fun v w1 => Result.ok (Next.value v) w1) hh
theorem Tryz.cNil (a p : Addr) (w : World) (ha : w.cell? a = some (.pointer (some p))) : (callFunc 78 #[.agg #[.pointer (some ⟨21, 120, none⟩), .pointer (some a), .int .u64 150]]).run Tryz.prog w = .ok (.value (.bool false)) w := by
  rw [@run_callFunc_extern Tryz.prog 78 _ (ReflectliteValue.method (ReflectliteValue.valueError "reflectlite.Value.IsNil" 0) ReflectliteValue.isNil) Tryz.func78 (by kernel_rfl) (by kernel_rfl) (by kernel_rfl) (by kernel_rfl)];have hh := Tryz.isNilT a p w ha;exact congrArg (fun r : Result Value => r.andThen fun v w1 => Result.ok (Next.value v) w1) hh
theorem Tryz.cKT (w : World) : (callFunc 159 #[.pointer (some ⟨21,120,none⟩)]).run Tryz.prog w=.ok (.value (.int .u8 22)) w:=by
  rw [@run_callFunc_extern Tryz.prog 159 _ (ReflectliteType.abiMethod fun t=>do pure (.int .u8 (← Rtype.kind t))) Tryz.func159 (by kernel_rfl) (by kernel_rfl) (by kernel_rfl) (by kernel_rfl)];have hh:=Tryz.kindT w;exact congrArg (fun r : Result Value=>r.andThen fun v w1=>Result.ok (Next.value v) w1) hh
theorem Tryz.cKA (w : World) : (callFunc 159 #[.pointer (some ⟨21,118,none⟩)]).run Tryz.prog w=.ok (.value (.int .u8 22)) w:=by
  rw [@run_callFunc_extern Tryz.prog 159 _ (ReflectliteType.abiMethod fun t=>do pure (.int .u8 (← Rtype.kind t))) Tryz.func159 (by kernel_rfl) (by kernel_rfl) (by kernel_rfl) (by kernel_rfl)];have hh:=Tryz.kindA w;exact congrArg (fun r : Result Value=>r.andThen fun v w1=>Result.ok (Next.value v) w1) hh
theorem Tryz.cRE (w : World) : (callFunc 170 #[.agg #[.pointer (some ⟨21,120,none⟩)]]).run Tryz.prog w=.ok (.value (.iface 156 (.agg #[.pointer (some ⟨21,118,none⟩)]))) w:=by
  rw [@run_callFunc_extern Tryz.prog 170 _ (ReflectliteType.method ReflectliteType.elem) Tryz.func170 (by kernel_rfl) (by kernel_rfl) (by kernel_rfl) (by kernel_rfl)];have hh:=Tryz.elemT w;exact congrArg (fun r : Result Value=>r.andThen fun v w1=>Result.ok (Next.value v) w1) hh
theorem Tryz.cAA (w : World) : (callFunc 168 #[.agg #[.pointer (some ⟨21, 118, none⟩)], .iface 156 (.agg #[.pointer (some ⟨21, 118, none⟩)])]).run Tryz.prog w = .ok (.value (.bool true)) w := by
  rw [@run_callFunc_extern Tryz.prog 168 _ (ReflectliteType.relation "AssignableTo" ReflectliteType.assignableTo) Tryz.func168 (by kernel_rfl) (by kernel_rfl) (by kernel_rfl) (by kernel_rfl)];have hh := Tryz.assignA w;exact congrArg (fun r : Result Value => r.andThen fun v w1 => Result.ok (Next.value v) w1) hh
theorem Tryz.cAE (w : World) : (callFunc 168 #[.agg #[.pointer (some ⟨21, 200, none⟩)], .iface 156 (.agg #[.pointer (some ⟨21, 118, none⟩)])]).run Tryz.prog w = .ok (.value (.bool false)) w := by
  rw [@run_callFunc_extern Tryz.prog 168 _ (ReflectliteType.relation "AssignableTo" ReflectliteType.assignableTo) Tryz.func168 (by kernel_rfl) (by kernel_rfl) (by kernel_rfl) (by kernel_rfl)];have hh := Tryz.assignE w;exact congrArg (fun r : Result Value => r.andThen fun v w1 => Result.ok (Next.value v) w1) hh
theorem Tryz.cEl (a p : Addr) (w : World) (ha : w.cell? a = some (.pointer (some p))) : (callFunc 92 #[.agg #[.pointer (some ⟨21, 120, none⟩), .pointer (some a), .int .u64 150]]).run Tryz.prog w = .ok (.value (.agg #[.pointer (some ⟨21, 118, none⟩), .pointer (some p), .int .u64 406])) w := by
  rw [@run_callFunc_extern Tryz.prog 92 _ (ReflectliteValue.method (ReflectliteValue.valueError "reflectlite.Value.Elem" 0) ReflectliteValue.elem) Tryz.func92 (by kernel_rfl) (by kernel_rfl) (by kernel_rfl) (by kernel_rfl)];have hh := Tryz.elemVT a p w ha;exact congrArg (fun r : Result Value => r.andThen fun v w1 => Result.ok (Next.value v) w1) hh
theorem Tryz.cSet (ta b e : Addr) (old : Value) (w : World) (hb : w.cell? b=some (.pointer (some e))) (ht : w.cell? ta=some old) (hf : w.frozen? ta=false) : (callFunc 93 #[.agg #[.pointer (some ⟨21,118,none⟩),.pointer (some ta),.int .u64 406],.agg #[.pointer (some ⟨21,118,none⟩),.pointer (some b),.int .u64 150]]).run Tryz.prog w=.ok (.value (.tuple #[])) (w.setCell ta (.pointer (some e))):=by
  rw [@run_callFunc_extern Tryz.prog 93 _ (ReflectliteValue.set) Tryz.func93 (by kernel_rfl) (by kernel_rfl) (by kernel_rfl) (by kernel_rfl)];have hh:=Tryz.setA ta b e old w hb ht hf;exact congrArg (fun r : Result Value=>r.andThen fun v w1=>Result.ok (Next.value v) w1) hh
theorem Zoa {w : World} {b T : Nat} {x v : Value} (hB : Blk w b [x] T) : Blk (w.setCell ⟨b,0,none⟩ v) b [v] T ∧ Chg [b] w (w.setCell ⟨b,0,none⟩ v):=
  ⟨by simpa using hB.set 0 v,⟨rfl,rfl,rfl,by simp,fun k hk hn=>heap_setCell_other w _ k v (fun e=>hn (by rw [e];exact List.mem_singleton.2 rfl))⟩⟩
theorem Zuz {A : Nat → Addr} {w0 : World} {u : Value} {e : ErrM} (h : IsE A w0 u e) (hn : e ≠ .nil) (w : World) : (callFunc 73 #[u]).run Tryz.prog w=.ok (.value (.iface 156 (.agg #[.pointer (some ⟨21,if e.isAt=true then 118 else 200,none⟩)]))) w:=by
  obtain⟨x,rfl⟩:=h.type hn;cases e.isAt with
  | true=>exact Tryz.callTA _ w
  | false=>exact Tryz.callTO _ w
theorem Zu0 (e : ErrM) (w : World) : (callFunc 168 #[.agg #[.pointer (some ⟨21,if e.isAt=true then 118 else 200,none⟩)],.iface 156 (.agg #[.pointer (some ⟨21,118,none⟩)])]).run Tryz.prog w=.ok (.value (.bool e.isAt)) w:=by
  cases e.isAt with
  | true=>exact Tryz.cAA w
  | false=>exact Tryz.cAE w
theorem asA {A : Nat → Addr} {w : World} {u : Value} {e : ErrM} (h : IsE A w u e) (q : e.isAt=true) : ∃ ap,u=.iface 118 (.pointer (some ap)):=by
  cases e with
  | pl p g=>obtain⟨_,b,h,_⟩ := h;exact⟨_,h⟩
  | v g=>cases q
  | nil=>cases q
def ptrOf (e : ErrM) (u x : Value) : Prop:=e.isAt=true → ∃ ap,u=.iface 118 (.pointer (some ap)) ∧ x=.pointer (some ap)
theorem as_in {w : World} {fp : Nat → Prop} {A : Nat → Addr} {u0 : Value} {e : ErrM} {bt vb : Nat} (hP0 : Sep w fp [blkR bt [.pointer none] 118,blkR vb [.pointer (some ⟨bt,0,none⟩)] 120]) (hv0 : ∀ w',ChgP fp w w' → IsE A w' u0 e) (hne : e ≠ .nil) :
    Calls Tryz.prog 79 [u0,.iface 120 (.pointer (some ⟨bt,0,none⟩)),.agg #[.pointer (some ⟨21,120,none⟩),.pointer (some ⟨vb,0,none⟩),.int .u64 150],.iface 156 (.agg #[.pointer (some ⟨21,118,none⟩)])].toArray w (Ret fun r w'=>∃ x,r=.bool e.isAt ∧ ptrOf e u0 x ∧ St fp w w' [blkR bt [x] 118]):=by
  have hS:=St.init hP0;refine enter Tryz.func79 rfl rfl rfl ?_;intro a H;dsimp only [Zhr,Nat.zero_add,Nat.reduceAdd] at H;refine wp_seq ?_;refine wp_region_lit ?_;refine Qk H rfl (cs:=[.pointer (some ⟨21,120,none⟩),.pointer (some ⟨vb,0,none⟩),.int .u64 150]) rfl rfl ?_;clear H;intro b6 w1 hN hE2 hs_b6;clear a;intro a H;replace hS:=hS.newBlk hN hE2 hs_b6;clear hN hE2;refine n_q H (Zb rfl) rfl ?_;clear H a;intro a H;refine Qq ?_;refine Zd ?_;refine wp_block ?_;replace hS:=hS.pick 2 rfl;dsimp only [List.eraseIdx] at hS;replace hS:=hS.pick 2 rfl;dsimp only [List.eraseIdx] at hS;replace hS:=hS.pick 2 rfl;dsimp only [List.eraseIdx] at hS;refine Qm (σ:=Unit) (fun x=>[(0,u0),(1,.iface 120 (.pointer (some ⟨bt,0,none⟩))),(2,.agg #[.pointer (some ⟨21,120,none⟩),.pointer (some ⟨vb,0,none⟩),.int .u64 150]),(3,.iface 156 (.agg #[.pointer (some ⟨21,118,none⟩)])),(6,.pointer (some ⟨b6,0,none⟩))]) (fun x wl=>St fp w wl [blkR b6 [.pointer (some ⟨21,120,none⟩),.pointer (some ⟨vb,0,none⟩),.int .u64 150] 137,blkR bt [.pointer none] 118,blkR vb [.pointer (some ⟨bt,0,none⟩)] 120]) (fun x=>0) () H ⟨rfl,rfl,rfl,rfl,rfl,trivial⟩ hS ?_;clear H hS;clear a;intro x a w3 H hR;simp only [ent,List.map_cons,List.map_nil] at H
  try dsimp only at hR
  have hS:=hR;try clear hR
  have hv:=hv0 _ hS.chg;refine wp_block ?_;refine wp_seq ?_;refine wp_seq ?_;refine wp_region_lit ?_;refine n_q H (Zc rfl) rfl ?_;clear H a;intro a H;refine n_q H (Zm0 rfl rfl (fun w _=>Zuz hv hne w)) rfl ?_;clear H a;intro a H;refine n_q H (Zc rfl) rfl ?_;clear H a;intro a H;refine n_q H (Zuh rfl rfl (Tryz.mAssignableTo _) (fun w _=>Zu0 e w)) rfl ?_;clear H a;intro a H;refine Qq ?_;refine Zd ?_;refine Zk H rfl (fun hc19=>?_) (fun hc19=>?_)
  · skip
    have q19 : e.isAt=true:=hc19;refine wp_seq ?_;refine wp_region_lit ?_;refine n_q H (Ze rfl ((hS.blk 0 rfl).ldAll Zs1 Zq7)) rfl ?_;clear H a;intro a H;refine n_q H (Zm0 rfl rfl (fun w1 hw1=>Tryz.cEl _ _ _ (((hS.blk 2 rfl).ext hw1).cell 0))) rfl ?_;clear H a;intro a H;refine n_q H (Zc rfl) rfl ?_;clear H a;intro a H;obtain⟨ap,hap⟩ : ∃ ap,u0=.iface 118 (.pointer (some ap)):=asA hv q19;subst hap;refine Zui H rfl (Tryz.cVA ap _) rfl ?_;clear H;clear a;intro a H;obtain⟨w20,hw20⟩ : ∃ x,x=World.alloc w3 (.cells #[.pointer (some ap)] 118):=⟨_,rfl⟩;obtain⟨b20,hb20⟩ : ∃ x,x=(World.heap w3).size:=⟨_,rfl⟩;rw [← hb20] at H;have hN20 : Blk w20 b20 [.pointer (some ap)] 118:=by rw [hw20,hb20];exact Blk.new _ [.pointer (some ap)] 118
    rw [← hw20];replace hS:=hS.newBlk hN20 (by rw [hw20];exact Ext.alloc' _ _) hb20.symm;replace hS:=hS.pick 2 rfl;dsimp only [List.eraseIdx] at hS;refine n_ext2 H rfl rfl (Tryz.cSet ⟨bt,0,none⟩ ⟨b20,0,none⟩ ap (.pointer none) _ ((hS.blk 1 rfl).cell 0) ((hS.blk 0 rfl).cell 0) ((hS.blk 0 rfl).frozen (by simp))) rfl ?_;clear H;clear a;intro a H;have hsc:=Zoa (v:=.pointer (some ap)) (hS.blk 0 rfl);obtain⟨w21,hw21⟩ : ∃ x,x=World.setCell w20 ⟨bt,0,none⟩ (.pointer (some ap)):=⟨_,rfl⟩;rw [← hw21] at hsc ⊢;replace hS:=hS.setBlk hsc.1 hsc.2;refine Qq ?_;refine Zd ?_;refine wp_seq ?_;refine wp_region_lit ?_;refine n_q H (Zb rfl) rfl ?_;clear H a;intro a H;refine Qq ?_;refine Zd ?_;refine wp_ret ?_;refine Zf ?_;refine Zg ?_;refine Zf ?_;refine Zg ?_;replace hS:=hS.take 1;simp only [List.take_succ_cons,List.take_zero] at hS;refine Qg H (.inr rfl) rfl rfl ?_;exact⟨.pointer (some ap),by rw [q19],fun _=>⟨_,rfl,rfl⟩,hS⟩
  · skip
    have q19 : e.isAt=false:=hc19;refine wp_skip ?_;refine Zd ?_;refine wp_seq ?_;refine wp_seq ?_;refine wp_region_lit ?_;refine n_q H (Zc rfl) rfl ?_;clear H a;intro a H;refine n_q H (Zep rfl (Tryz.noAs hv hne)) rfl ?_;clear H a;intro a H;refine n_q H (Zc rfl) rfl ?_;clear H a;intro a H;refine n_q H (Qb rfl rfl) rfl ?_;clear H a;intro a H;refine n_q H (Qb rfl rfl) rfl ?_;clear H a;intro a H;refine n_q H (Zb rfl) rfl ?_;clear H a;intro a H;refine n_q H (Zb rfl) rfl ?_;clear H a;intro a H;refine Qq ?_;refine Zd ?_;refine wp_seq ?_;refine wp_region_lit ?_;refine n_c H (fun HC=>?_);clear H;refine Ti HC (Zc rfl) rfl (by kernel_rfl) ?_;clear HC a;intro a HC;refine Ti HC (Zc rfl) rfl (by kernel_rfl) ?_;clear HC a;intro a HC;refine Zem HC (Zc rfl) (by kernel_rfl) (by kernel_rfl) (by kernel_rfl) ?_;clear HC a;intro a HC;refine Zem HC (Zc rfl) (by kernel_rfl) (by kernel_rfl) (by kernel_rfl) ?_;clear HC a;intro a HC;refine nc_no HC rfl rfl (by decide) (by kernel_rfl) (by kernel_rfl) (by kernel_rfl) ?_;clear HC a;intro a HC;refine Ti HC (Zq rfl rfl) rfl (by kernel_rfl) ?_;clear HC a;intro a HC;have H:=HC.has;clear HC;refine Qq ?_;refine Zd ?_;refine Zk H rfl (fun hc35=>?_) (fun hc35=>?_)
    · skip
      cases hc35
    · skip
      refine wp_skip ?_;refine Zd ?_;refine wp_seq ?_;refine wp_region_lit ?_;refine n_q H (Zc rfl) rfl ?_;clear H a;intro a H;refine Qq ?_;refine Zd ?_;refine wp_block ?_;refine wp_seq ?_;refine wp_region_lit ?_;refine n_q H (Zep rfl (Tryz.un hv hne)) rfl ?_;clear H a;intro a H;refine n_q H (Qb rfl rfl) rfl ?_;clear H a;intro a H;refine n_q H (Qb rfl rfl) rfl ?_;clear H a;intro a H;refine Qq ?_;refine Zd ?_;refine Zk H rfl (fun hc38=>?_) (fun hc38=>?_)
      · skip
        rw [q19] at hc38;cases hc38
      · skip
        refine wp_seq ?_;refine wp_region_lit ?_;refine n_q H (Zep rfl (Tryz.noUns hv hne)) rfl ?_;clear H a;intro a H;refine n_q H (Qb rfl rfl) rfl ?_;clear H a;intro a H;refine n_q H (Qb rfl rfl) rfl ?_;clear H a;intro a H;refine Qq ?_;refine Zd ?_;refine Zk H rfl (fun hc45=>?_) (fun hc45=>?_)
        · skip
          cases hc45
        · skip
          refine wp_seq ?_;refine wp_region_lit ?_;refine n_q H (Zb rfl) rfl ?_;clear H a;intro a H;refine Qq ?_;refine Zd ?_;refine wp_seq ?_;refine wp_region_lit ?_;refine n_q H (Zb rfl) rfl ?_;clear H a;intro a H;refine Qq ?_;refine Zd ?_;refine wp_ret ?_;refine Zg ?_;refine Zg ?_;refine Zf ?_;refine Zg ?_;replace hS:=hS.pick 1 rfl;dsimp only [List.eraseIdx] at hS;replace hS:=hS.take 1;simp only [List.take_succ_cons,List.take_zero] at hS;refine Qg H (.inr rfl) rfl rfl ?_;exact⟨.pointer none,by rw [q19],fun h=>absurd (q19.symm.trans h) (by simp),hS⟩
theorem Tryz.implA (w : World) : (ReflectliteType.relation "Implements" ReflectliteType.implements_ #[.agg #[.pointer (some ⟨21, 118, none⟩)], .iface 156 (.agg #[.pointer (some ⟨21, 39, none⟩)])]).run Tryz.prog w = .ok (.bool true) w := by kernel_rfl
theorem Tryz.cIm (w : World) : (callFunc 171 #[.agg #[.pointer (some ⟨21, 118, none⟩)], .iface 156 (.agg #[.pointer (some ⟨21, 39, none⟩)])]).run Tryz.prog w = .ok (.value (.bool true)) w := by
  rw [@run_callFunc_extern Tryz.prog 171 _ (ReflectliteType.relation "Implements" ReflectliteType.implements_) Tryz.func171 (by kernel_rfl) (by kernel_rfl) (by kernel_rfl) (by kernel_rfl)];exact congrArg (fun r : Result Value => r.andThen fun v w1 => Result.ok (Next.value v) w1) (Tryz.implA w)
def HE (w : World) : Prop:=w.cell? ⟨20,0,none⟩=some (.iface 156 (.agg #[.pointer (some ⟨21,39,none⟩)]))
theorem HE.ext {w w' : World} (h : HE w) (e : Ext w w') : HE w':=Zhq h e
theorem as_w {w : World} {fp : Nat → Prop} {A : Nat → Addr} {u0 : Value} {e : ErrM} {bt : Nat} (hP0 : Sep w fp [blkR bt [.pointer none] 118]) (hv0 : ∀ w',ChgP fp w w' → IsE A w' u0 e) (hH : ∀ w',ChgP fp w w' → HE w') :
    Calls Tryz.prog 60 [u0,.iface 120 (.pointer (some ⟨bt,0,none⟩))].toArray w (Ret fun r w'=>∃ x,r=.bool e.isAt ∧ ptrOf e u0 x ∧ St fp w w' [blkR bt [x] 118]):=by
  have hS:=St.init hP0;refine enter Tryz.func60 rfl rfl rfl ?_;intro a H;dsimp only [Zhr,Nat.zero_add,Nat.reduceAdd] at H;refine wp_seq ?_;refine wp_region_lit ?_;refine n_q H (Zb rfl) rfl ?_;clear H a;intro a H;refine Qq ?_;refine Zd ?_;refine wp_seq ?_;refine wp_seq ?_;refine wp_region_lit ?_;refine n_q H (Zc rfl) rfl ?_;clear H a;intro a H;refine n_q H (Ziq Tryz.underlying39 rfl rfl (hv0 _ hS.chg).form) rfl ?_;clear H a;intro a H;refine Qq ?_;refine Zd ?_;refine Zk H rfl (fun hc9=>?_) (fun hc9=>?_)
  · skip
    have q9 : e=.nil:=by rw [(hv0 _ hS.chg).isNil] at hc9;exact of_decide_eq_true hc9
    refine wp_seq ?_;refine wp_region_lit ?_;refine n_q H (Zb rfl) rfl ?_;clear H a;intro a H;refine Qq ?_;refine Zd ?_;refine wp_ret ?_;refine Zf ?_;refine Qg H (.inr rfl) rfl rfl ?_;exact⟨.pointer none,by rw [q9];rfl,(fun h=>by rw [q9] at h;cases h),hS⟩
  · skip
    have q9 : e ≠ .nil:=by rw [(hv0 _ hS.chg).isNil] at hc9;exact of_decide_eq_false hc9
    refine wp_skip ?_;refine Zd ?_;refine wp_seq ?_;refine wp_seq ?_;refine wp_region_lit ?_;refine n_q H (Zc rfl) rfl ?_;clear H a;intro a H;refine n_q H (Ziq Tryz.underlying20 rfl rfl (.inr ⟨_,_,rfl⟩)) rfl ?_;clear H a;intro a H;refine Qq ?_;refine Zd ?_;refine Zk H rfl (fun hc11=>?_) (fun hc11=>?_)
    · skip
      cases hc11
    · skip
      refine wp_skip ?_;refine Zd ?_;refine wp_seq ?_;refine wp_region_lit ?_;refine n_q H (Zc rfl) rfl ?_;clear H a;intro a H;refine Zui H rfl (Tryz.cVO _ _) rfl ?_;clear H;clear a;intro a H;obtain⟨w20,hw20⟩ : ∃ x,x=World.alloc w (.cells #[.pointer (some ⟨bt,0,none⟩)] 120):=⟨_,rfl⟩;obtain⟨vb,hvb⟩ : ∃ x,x=(World.heap w).size:=⟨_,rfl⟩;rw [← hvb] at H;have hN20 : Blk w20 vb [.pointer (some ⟨bt,0,none⟩)] 120:=by rw [hw20,hvb];exact Blk.new _ [.pointer (some ⟨bt,0,none⟩)] 120
      rw [← hw20];replace hS:=hS.newBlk hN20 (by rw [hw20];exact Ext.alloc' _ _) hvb.symm;refine Qo H ze137 rfl ?_;clear H;intro b5 w1 hN hE2 hs_b5;clear a;intro a H;replace hS:=hS.newBlk hN hE2 hs_b5;clear hN hE2;refine Zv H rfl rfl rfl Zq7 (hS.blk 0 rfl) rfl (by simp) ?_;clear H;intro w3 hN hC4 hz;clear a;intro a H;replace hS:=hS.setBlk hN hC4;clear hN hz;refine Qq ?_;refine Zd ?_;refine wp_seq ?_;refine wp_region_lit ?_;refine n_q H (Ze rfl ((hS.blk 0 rfl).ldAll Zs1 Zq7)) rfl ?_;clear H a;intro a H;refine n_q H (Zm0 rfl rfl (fun w _=>Tryz.cTy _ w)) rfl ?_;clear H a;intro a H;refine n_q H (Zb rfl) rfl ?_;clear H a;intro a H;refine Qq ?_;refine Zd ?_;refine wp_seq ?_;refine wp_seq ?_;refine wp_region_lit ?_;refine n_c H (fun HC=>?_);clear H;refine Ti HC (Zc rfl) rfl (by kernel_rfl) ?_;clear HC a;intro a HC;refine Ti HC (Zpd rfl (Tryz.mKind _) (fun w _=>Tryz.cKT w)) rfl (by kernel_rfl) ?_;clear HC a;intro a HC;refine Ti HC (Zst rfl rfl) rfl (by kernel_rfl) ?_;clear HC a;intro a HC;refine Ti HC (Zc rfl) rfl (by kernel_rfl) ?_;clear HC a;intro a HC;refine Zem HC (Ze rfl ((hS.blk 0 rfl).ldAll Zs1 Zq7)) (by kernel_rfl) (by kernel_rfl) (by kernel_rfl) ?_;clear HC a;intro a HC;refine Zem HC (Zm0 rfl rfl (fun w1 hw1=>Tryz.cNil _ _ _ (((hS.blk 1 rfl).ext hw1).cell 0))) (by kernel_rfl) (by kernel_rfl) (by kernel_rfl) ?_;clear HC a;intro a HC;refine Zlm (j:=3) HC rfl rfl rfl (by kernel_rfl) (by kernel_rfl) ?_;clear HC a;intro a HC;have H:=HC.has;clear HC;refine Qq ?_;refine Zd ?_;refine Zk H rfl (fun hc23=>?_) (fun hc23=>?_)
      · skip
        exact absurd hc23 (by decide)
      · skip
        refine wp_skip ?_;refine Zd ?_;refine wp_seq ?_;refine wp_region_lit ?_;refine n_q H (Zc rfl) rfl ?_;clear H a;intro a H;refine n_q H (Zpd rfl (Tryz.mElem _) (fun w _=>Tryz.cRE w)) rfl ?_;clear H a;intro a H;refine n_q H (Zb rfl) rfl ?_;clear H a;intro a H;refine Qq ?_;refine Zd ?_;refine wp_seq ?_;refine wp_seq ?_;refine wp_region_lit ?_;refine n_c H (fun HC=>?_);clear H;refine Ti HC (Zc rfl) rfl (by kernel_rfl) ?_;clear HC a;intro a HC;refine Ti HC (Zpd rfl (Tryz.mKind _) (fun w _=>Tryz.cKA w)) rfl (by kernel_rfl) ?_;clear HC a;intro a HC;refine Ti HC (Zst rfl rfl) rfl (by kernel_rfl) ?_;clear HC a;intro a HC;refine Ti HC (Zc rfl) rfl (by kernel_rfl) ?_;clear HC a;intro a HC;refine Zem HC (Zc rfl) (by kernel_rfl) (by kernel_rfl) (by kernel_rfl) ?_;clear HC a;intro a HC;refine Zem HC (Ze rfl (LdX.one ag131 (hH _ hS.chg))) (by kernel_rfl) (by kernel_rfl) (by kernel_rfl) ?_;clear HC a;intro a HC;refine Zem HC (Zuh rfl rfl (Tryz.mImplements _) (fun w _=>Tryz.cIm w)) (by kernel_rfl) (by kernel_rfl) (by kernel_rfl) ?_;clear HC a;intro a HC;refine Zem HC (Gw rfl) (by kernel_rfl) (by kernel_rfl) (by kernel_rfl) ?_;clear HC a;intro a HC;refine Zo6 (j:=3) HC rfl rfl rfl (by kernel_rfl) (by kernel_rfl) ?_;clear HC a;intro a HC;have H:=HC.has;clear HC;refine Qq ?_;refine Zd ?_;refine Zk H rfl (fun hc35=>?_) (fun hc35=>?_)
        · skip
          exact absurd hc35 (by decide)
        · skip
          refine wp_skip ?_;refine Zd ?_;refine wp_seq ?_;refine wp_region_lit ?_;refine n_q H (Zc rfl) rfl ?_;clear H a;intro a H;refine n_q H (Zc rfl) rfl ?_;clear H a;intro a H;refine n_q H (Ze rfl ((hS.blk 0 rfl).ldAll Zs1 Zq7)) rfl ?_;clear H a;intro a H;refine n_q H (Zc rfl) rfl ?_;clear H a;intro a H;replace hS:=hS.pick 1 rfl;dsimp only [List.eraseIdx] at hS;replace hS:=hS.pick 2 rfl;dsimp only [List.eraseIdx] at hS;obtain⟨fp41,hG41,hK41,hR41,hF41⟩:=hS.frame2;refine Zw H rfl en79 (as_in hG41 (fun w' hw=>hv0 w' (hK41 w' hw)) q9) rfl ?_;clear H a;intro v7 w5 hv a H;obtain⟨xx,rfl,hpx,hE6⟩:=hv;replace hS:=hF41 _ _ hE6;simp only [List.cons_append,List.nil_append] at hS;clear hG41 hK41 hR41 hF41;refine n_q H (Zb rfl) rfl ?_;clear H a;intro a H;refine Qq ?_;refine Zd ?_;refine wp_ret ?_;replace hS:=hS.take 1;simp only [List.take_succ_cons,List.take_zero] at hS;refine Qg H (.inr rfl) rfl rfl ?_;exact⟨xx,rfl,hpx,hS⟩
theorem Zu1 {w : World} {A : Nat → Addr} {v0 : Value} {e : ErrM} (hH : HE w) (h : IsE A w v0 e) :
    Calls Tryz.prog 43 [v0].toArray w (Ret fun r w'=>r=.int .i64 e.place ∧ Ext w w'):=by
  have hS:=St.begin NB w;refine enter Tryz.func43 rfl rfl rfl ?_;intro a H;dsimp only [Zhr,Nat.zero_add,Nat.reduceAdd] at H;refine wp_seq ?_;refine wp_region_lit ?_;refine n_q H (Zb rfl) rfl ?_;clear H a;intro a H;refine Qq ?_;refine Zd ?_;refine wp_seq ?_;refine wp_region_lit ?_;refine Qo H ze118 rfl ?_;clear H;intro b3 w1 hN hE2 hs_b3;clear a;intro a H;replace hS:=hS.newBlk hN hE2 hs_b3;clear hN hE2;refine Qq ?_;refine Zd ?_;refine wp_seq ?_;refine wp_seq ?_;refine wp_region_lit ?_;refine n_q H (Zc rfl) rfl ?_;clear H a;intro a H;refine n_q H (Zdj Tryz.underlying120 (by simp) rfl) rfl ?_;clear H a;intro a H;obtain⟨fp6,hG6,hK6,hR6,hF6⟩:=hS.frame1;refine Zw H rfl en60 (as_w hG6 (fun w' hw=>h.ext (hK6 w' hw).ext) (fun w' hw=>hH.ext (hK6 w' hw).ext)) rfl ?_;clear H a;intro v5 w3 hv a H;obtain⟨xx,rfl,hpx,hE4⟩:=hv;replace hS:=hF6 _ _ hE4;simp only [List.cons_append,List.nil_append] at hS;clear hG6 hK6 hR6 hF6;refine Qq ?_;refine Zd ?_;refine Zk H rfl (fun hc6=>?_) (fun hc6=>?_)
  · skip
    obtain⟨p1,g1,rfl⟩ : ∃ p g,e=.pl p g:=by cases e <;> simp [ErrM.isAt] at hc6 ⊢
    obtain⟨ap,hu,rfl⟩:=hpx rfl;obtain⟨hg1,b1,hu1,hc0,hc1⟩:=h.ext hS.x;rw [hu] at hu1;obtain rfl : ap=⟨b1,0,none⟩:=by simpa using hu1
    refine wp_seq ?_;refine wp_region_lit ?_;refine n_q H (Ze rfl ((hS.blk 0 rfl).ld ag118 rfl)) rfl ?_;clear H a;intro a H;refine n_q H (Zk3 rfl) rfl ?_;clear H a;intro a H;refine n_q H (Zo rfl Zuw) rfl ?_;clear H a;intro a H;refine n_q H (Ze rfl (LdX.one ag3 (show World.cell? _ ((⟨b1,0,none⟩ : Addr).add 0)=some (.int .i64 p1) by rw [Yx];exact hc0))) rfl ?_;clear H a;intro a H;refine n_q H (Zb rfl) rfl ?_;clear H a;intro a H;refine Qq ?_;refine Zd ?_;refine wp_ret ?_;refine Zf ?_;refine Qg H (.inr rfl) rfl rfl ?_;exact⟨rfl,hS.x⟩
  · skip
    have q6 : e.isAt=false:=hc6;refine wp_skip ?_;refine Zd ?_;refine wp_seq ?_;refine wp_region_lit ?_;refine n_q H (Zb rfl) rfl ?_;clear H a;intro a H;refine Qq ?_;refine Zd ?_;refine wp_ret ?_;refine Qg H (.inr rfl) rfl rfl ?_;exact⟨(by cases e <;> first | rfl | cases q6),hS.x⟩
end Go.Proofs.YtjekfpnpfllaoaaGreatDoor
set_option linter.unusedVariables false
set_option linter.unusedSimpArgs false
set_option linter.unusedSectionVars false
namespace Go.Proofs.YtjekfpnpfllaoaaGreatDoor
open Go Go.RowKit
def Wt (z : Int) : UInt8:=UInt8.ofNat (z % 256).toNat
theorem Zec (z : Int) : ((Wt z).toNat : Int)=z % 256:=by
  rw [Wt,UInt8.toNat_ofNat'];omega
theorem eB_lit {z : Int} (h0 : 0 ≤ z) (h1 : z < 256) : eB (Wt z)=[.int .u8 z]:=by
  have:=Zec z;simp only [eB]
  congr 2
  omega
section
variable {w : World} {b T : Nat}
end
theorem SlR.take {α : Type} {w : World} {k : Nat} {R : World → List Value → α → Prop} {A : Option Addr} {n c : Nat} {xs : List α} (h : SlR w k R (.slice A n c) xs) (m : Nat) (hm : m ≤ n) : SlR w k R (.slice A m c) (xs.take m):=by
  obtain⟨A',c',h1,h2,h3,h4,h5⟩:=h;cases h1
  have hl : (xs.take m).length=m:=by simp;omega
  refine⟨A,c,by rw [hl],by omega,h3,fun ha=>⟨by rw [(h4 ha).1];simp,(h4 ha).2⟩,fun ad ha i x hx=>?_⟩;rw [List.getElem?_take] at hx;split at hx
  · exact h5 ad ha i x hx
  · cases hx
theorem LdX.k0 {P : Program} {t : TypeId} {w : World} {ad : Addr} {v : Value} (h : LdX P t w ad v) : LdC P t (ChgF [] w.heap.size w) ad v:=
  fun w' hw'=>h w' ⟨hw'.os,hw'.tape,hw'.output,hw'.size,fun k hk=>hw'.block k hk hk (by simp)⟩
theorem LdC.k0 {P : Program} {t : TypeId} {w : World} {ad : Addr} {v : Value} (h : LdC P t (Ext w) ad v) : LdC P t (ChgF [] w.heap.size w) ad v:=LdX.k0 h
section
variable {P : Program} {ops : Array Oper} {Q : Exit → Act → World → Prop} {rest : List Oper} {a : Act} {n : Nat} {l : List (Nat × Option Value)} {w : World}
  {ty : TypeId} {pos : String} {af : Array Edge} {d : Nat}
theorem Zq9 {x y : Operand} {t E k b cap o : Nat} {u : Value} {m : Nat} {xs : List Value} (H : Has a n l) (ex : lo l x=some (.pointer (some ⟨b,o,none⟩))) (ey : lo l y=some u) (hs : Xb P t=some 1) (h1 : u.oneCell' = true)
    (hO : Own w E k (.slice (some ⟨b,0,none⟩) m cap) m xs) (ho : o < m * k)
    (h : ∀ w',Own w' E k (.slice (some ⟨b,0,none⟩) m cap) m (xs.set o u) → Chg [b] w w' → ∀ a',Has a' n l → wpList P ops Q rest a' w') :
    wpList P ops Q (⟨none,.store t x y,ty,pos,af,none⟩ :: rest) a w:=by
  obtain⟨cs,hb,h2,h3,h4,h5,h6⟩:=hO.blk;have hc : m * k ≤ cap * k:=Nat.mul_le_mul_right k h2;refine Jb H ex ey hs hb (by omega) h1 fun w' hB hC hz a' H'=>h w' ?_ hC a' H'
  refine Own.ofBlk' hB h2 h3 (by simpa using h4) ?_ (by simpa using h5);rw [List.take_set,h6]
end
section
variable {P : Program} {ops : Array Oper} {Q : Exit → Act → World → Prop} {a : Act} {n : Nat} {l : List (Nat × Option Value)} {w : World} {B : List Nat} {k0 h0 : Nat}
  {ty : TypeId} {pos : String} {af : Array Edge} {d fuel : Nat} {listed : Array Bool}
end
end Go.Proofs.YtjekfpnpfllaoaaGreatDoor
set_option linter.unusedVariables false
set_option linter.unusedSimpArgs false
set_option linter.unusedSectionVars false
namespace Go.Proofs.YtjekfpnpfllaoaaGreatDoor
open Go Go.RowKit
theorem Sep.perm {w : World} {rs rs' : List Rs} (p : rs.Perm rs') : ∀ {U : Nat → Prop},Sep w U rs → Sep w U rs':=by
  induction p with
  | nil=>exact fun h=>h
  | cons x _ ih=>exact fun ⟨f,h1,h2,h3⟩=>⟨f,h1,h2,ih h3⟩
  | swap x y l=>exact fun h=>Sep.swap h
  | trans _ _ ih1 ih2=>exact fun h=>ih2 (ih1 h)
section
variable {α : Type} {f : α → Rs} {l : List α} {fp : Nat → Prop} {w0 w : World} {rs rs' : List Rs} {c c' : α} {i : Nat}
theorem St.perm (p : rs.Perm rs') (h : St fp w0 w rs) : St fp w0 w rs':=⟨h.chg,Sep.perm p h.sep⟩
end
section
variable {P : Program} {ops : Array Oper} {Q : Exit → Act → World → Prop} {rest : List Oper} {a : Act} {w : World} {n k0 h0 fuel d : Nat} {l : List (Nat × Option Value)} {B : List Nat} {listed : Array Bool} {ty : TypeId} {pos : String} {af : Array Edge}
end
section
variable {P : Program} {ops : Array Oper} {Q : Exit → Act → World → Prop} {k0 : Nat} {S : World → Prop}
theorem Zie {i : Nat} {oi : Oper} {v : Value} (hi : ops[i]? = some oi) (hsel : ∀ (j : Nat) (o : Oper) cs b,ops[j]? = some o → o.op ≠ .select cs b)
    (hQ : ∀ c a w,Q (.panic c) (a.put oi.dst v) w → Q (.panic c) a w) (hne : i ≠ k0) :
    ∀ (fuel : Nat) (listed : Array Bool) (a : Act) (w : World),listed.size=ops.size →
      (∀ j oj,ops[j]? = some oj → j ≠ i → listed.getD j true=false → (∀ e ∈ oj.after,Region.binds .any e=true → e.on ≠ i) → oi.apart ops oj=true) →
      i ∈ Region.ready .any ops listed → YieldsIf P ops (fun _=>True) oi v a → (act k0 listed=true → S w) →
      wpK P ops Q k0 S fuel (listed.setIfInBounds i true) (a.put oi.dst v) w → wpK P ops Q k0 S (fuel + 1) listed a w:=by
  have ha : ∀ li : Array Bool,act k0 (li.setIfInBounds i true)=act k0 li:=fun li=>by
    unfold act;rw [getD_set_ne false hne]
  intro fuel
  induction fuel with
  | zero=>
    intro listed a w hsz _ hr hy hS H;refine⟨fun h=>(by rw [h] at hr;cases hr),fun j hj=>?_⟩
    by_cases hji : j=i
    · subst hji;exact hy.wpOp hi trivial ⟨fun h=>hS (by rwa [ha] at h),H⟩
    · have:=ready_mono hj hji;rw [H.1] at this;cases this
  | succ fuel ih=>
    intro listed a w hsz hfree hr hy hS H;refine⟨fun h=>(by rw [h] at hr;cases hr),fun j hj=>?_⟩
    by_cases hji : j=i
    · subst hji;exact hy.wpOp hi trivial ⟨fun h=>hS (by rwa [ha] at h),H⟩
    · have h1:=H.2 j (ready_mono hj hji);obtain⟨hjun,oj,hoj,hall⟩:=mem_ready.1 hj;have hnot : ∀ e ∈ oj.after,Region.binds .any e=true → e.on ≠ i:=fun e he hb heq=>by
        have h1:=hall e he hb;have h0:=(mem_ready.1 hr).1;rw [heq] at h1
        rcases Nat.lt_or_ge i listed.size with h'|h'
        · simp [h'] at h0 h1;rw [h0] at h1;cases h1
        · simp [Array.getElem?_eq_none h'] at h1
      have h2:=wpOp_putIf hoj (hfree j oj hoj hji hjun hnot) (fun cs b=>hsel i oi cs b hi) (fun cs b=>hsel j oj cs b hoj) hQ hy h1;have hfree' : ∀ k ok,ops[k]? = some ok → k ≠ i → (listed.setIfInBounds j true).getD k true=false →
          (∀ e ∈ ok.after,Region.binds .any e=true → e.on ≠ i) → oi.apart ops ok=true:=fun k ok hk hki hun hno=>by
        refine hfree k ok hk hki ?_ hno
        by_cases hjk : j=k
        · subst hjk;exact hjun
        · rw [getD_set_ne true hjk] at hun;exact hun
      have hcm : (listed.setIfInBounds i true).setIfInBounds j true=(listed.setIfInBounds j true).setIfInBounds i true:=Array.setIfInBounds_comm _ _ (Ne.symm hji);refine wpOp_mono (fun a' w' h3=>?_) h2;have hs' : act k0 (listed.setIfInBounds j true)=true → S w':=fun h=>h3.2.1 (by rw [hcm,ha];exact h)
      refine⟨hs',ih (listed.setIfInBounds j true) a' w' (by simpa using hsz) hfree' (ready_mono hr (Ne.symm hji)) h3.1 hs' ?_⟩;rw [← hcm];exact h3.2.2
end
section
variable {P : Program} {ops : Array Oper} {Q : Exit → Act → World → Prop} {a : Act} {n : Nat} {l : List (Nat × Option Value)} {w : World} {B : List Nat} {k0 h0 : Nat}
  {op : Op} {ty : TypeId} {pos : String} {af : Array Edge} {d fuel : Nat} {v : Value} {listed : Array Bool}
theorem Zra (i : Nat) (H : Has a n l) (hi : ops[i]? = some ⟨some d,op,ty,pos,af,none⟩) (q : Q1 P (lo l) op (fun _=>True) v) (hd : Nat.blt d n=true) (hs : Region.noSelect ops=true) (hf : Region.free .any ops listed i=true)
    (hr : (Region.ready .any ops listed).contains i=true) (hb : (!(Nat.beq i k0) && (Nat.beq listed.size ops.size))=true) (hQ : ∀ c a w,Q (.panic c) (a.put (some d) v) w → Q (.panic c) a w)
    (h : ∀ a',Has a' n ((d,some v) :: l) → wpK P ops Q k0 (ChgF B h0 w) fuel (listed.setIfInBounds i true) a' w) : wpK P ops Q k0 (ChgF B h0 w) (fuel + 1) listed a w:=by
  simp only [Bool.and_eq_true,Bool.not_eq_true'] at hb;obtain⟨h2,h4⟩:=hb;exact Zie (oi:=⟨some d,op,ty,pos,af,none⟩) (v:=v) hi (Region.noSelect_spec hs) hQ (fun e=>by rw [e,Nat.beq_refl] at h2;cases h2) fuel listed a w (Nat.eq_of_beq_eq_true h4) (Region.free_spec hi hf) (by simpa using hr)
    (.inl ⟨by simp [Region.wanted],fun w' hw=>q a.eval H.eval w' hw (some d) ty pos af none⟩) (fun _=>ChgF.refl _ _ _) (h _ (H.put d v hd))
end
end Go.Proofs.YtjekfpnpfllaoaaGreatDoor
set_option linter.unusedVariables false
set_option linter.unusedSimpArgs false
set_option linter.unusedSectionVars false
namespace Go.Proofs.YtjekfpnpfllaoaaGreatDoor
open Go Go.RowKit
section
variable {P : Program} {ops : Array Oper} {Q : Exit → Act → World → Prop} {a : Act} {n : Nat} {l : List (Nat × Option Value)} {w : World} {B : List Nat} {k0 h0 : Nat}
  {op : Op} {ty : TypeId} {pos : String} {af : Array Edge} {d fuel : Nat} {v : Value} {listed : Array Bool} {j t : Nat} {want : Bool}
theorem Zf8 {dst : Option Nat} (H : Has a n l) (hj : (ops[j]?).bind (·.dst)=some t) (ht : lk l t=some (.bool want)) : Region.wanted ⟨dst,op,ty,pos,af,some (j,want)⟩ (yielded ops a.tmps)=true:=
  (He (g:=(j,want)) (o:=⟨dst,op,ty,pos,af,some (j,want)⟩) rfl).2 (Zbp H hj ht)
theorem Zs7 (i : Nat) (H : Has a n l) (hi : ops[i]? = some ⟨some d,op,ty,pos,af,some (j,want)⟩) (hj : (ops[j]?).bind (·.dst)=some t) (ht : lk l t=some (.bool want)) (q : Q1 P (lo l) op (fun _=>True) v) (hd : Nat.blt d n=true) (hs : Region.noSelect ops=true) (hf : Region.free .any ops listed i=true)
    (hr : (Region.ready .any ops listed).contains i=true) (hb : (!(Nat.beq i k0) && (Nat.beq listed.size ops.size))=true) (hQ : ∀ c a w,Q (.panic c) (a.put (some d) v) w → Q (.panic c) a w)
    (h : ∀ a',Has a' n ((d,some v) :: l) → wpK P ops Q k0 (ChgF B h0 w) fuel (listed.setIfInBounds i true) a' w) : wpK P ops Q k0 (ChgF B h0 w) (fuel + 1) listed a w:=by
  simp only [Bool.and_eq_true,Bool.not_eq_true'] at hb;obtain⟨h2,h4⟩:=hb;exact Zie (oi:=⟨some d,op,ty,pos,af,some (j,want)⟩) (v:=v) hi (Region.noSelect_spec hs) hQ (fun e=>by rw [e,Nat.beq_refl] at h2;cases h2) fuel listed a w (Nat.eq_of_beq_eq_true h4) (Region.free_spec hi hf) (by simpa using hr)
    (.inl ⟨Zf8 H hj ht,fun w' hw=>q a.eval H.eval w' hw (some d) ty pos af _⟩) (fun _=>ChgF.refl _ _ _) (h _ (H.put d v hd))
theorem Zu2 (i : Nat) (H : Has a n l) (hi : ops[i]? = some ⟨some d,op,ty,pos,af,some (j,want)⟩) (hj : (ops[j]?).bind (·.dst)=some t) (ht : lk l t=some (.bool want)) (q : Q1 P (lo l) op (ChgF B h0 w) v) (hd : Nat.blt d n=true) (hs : Region.noSelect ops=true) (hf : Region.free .any ops listed i=true)
    (hr : (Region.ready .any ops listed).contains i=true) (hb : (Zir ops k0 i && !(Nat.beq i k0) && act k0 listed && (Nat.beq listed.size ops.size))=true) (hQ : ∀ c a w,Q (.panic c) (a.put (some d) v) w → Q (.panic c) a w)
    (h : ∀ a',Has a' n ((d,some v) :: l) → wpK P ops Q k0 (ChgF B h0 w) fuel (listed.setIfInBounds i true) a' w) : wpK P ops Q k0 (ChgF B h0 w) (fuel + 1) listed a w:=by
  simp only [Bool.and_eq_true,Bool.not_eq_true'] at hb;obtain⟨⟨⟨h1,h2⟩,h3⟩,h4⟩:=hb;exact Zmw (oi:=⟨some d,op,ty,pos,af,some (j,want)⟩) (v:=v) hi (Region.noSelect_spec hs) hQ h1 (fun e=>by rw [e,Nat.beq_refl] at h2;cases h2) fuel listed a w h3 (Nat.eq_of_beq_eq_true h4) (Region.free_spec hi hf) (by simpa using hr)
    (.inl ⟨Zf8 H hj ht,fun w' hw=>q a.eval H.eval w' hw (some d) ty pos af _⟩) (ChgF.refl _ _ _) (h _ (H.put d v hd))
theorem kg_one (i : Nat) {o : Oper} (hi : ops[i]? = some o) (hw : Region.wanted o (yielded ops a.tmps)=true) (hr : Region.ready .any ops listed=[i])
    (h : o.wp P a w (fun a' w'=>Go' B k0 h0 (listed.setIfInBounds i true) w w' ∧ wpK P ops Q k0 (ChgF B h0 w') fuel (listed.setIfInBounds i true) a' w') Q) : wpK P ops Q k0 (ChgF B h0 w) (fuel + 1) listed a w:=by
  refine⟨fun h0=>(by rw [h0] at hr;cases hr),fun j hj=>?_⟩;rw [hr] at hj;have:=List.mem_singleton.1 hj;subst this;unfold wpOp;simp only [hi];rw [if_pos hw];refine .inl (Oper.wp_mono (fun a' w' h'=>?_) h)
  rcases h'.1 with hc|hn
  · exact⟨fun _=>hc,Zgy (fun w'' hw=>hc.trans hw) _ _ _ _ h'.2⟩
  · exact⟨fun ha=>(by rw [hn] at ha;cases ha),Zi7 _ _ _ _ hn h'.2⟩
theorem Zu3 (i : Nat) {f : FuncId} {xs : List Operand} {tys : Array TypeId} {vs : List Value} {Φ : Value → World → Prop} (H : Has a n l)
    (hi : ops[i]? = some ⟨some d,.call { callee:=.value (.func f),args:=xs.toArray,argTypes:=tys },ty,pos,af,some (j,want)⟩) (hj : (ops[j]?).bind (·.dst)=some t) (ht : lk l t=some (.bool want)) (e : Zke l xs=some vs) (hf : Zt P f=true) (hc : Calls P f vs.toArray w (Ret Φ)) (hd : Nat.blt d n=true)
    (hr : Region.ready .any ops listed=[i]) (hΦ : ∀ v w',Φ v w' → Go' B k0 h0 (listed.setIfInBounds i true) w w')
    (h : ∀ v w',Φ v w' → ∀ a',Has a' n ((d,some v) :: l) → wpK P ops Q k0 (ChgF B h0 w') fuel (listed.setIfInBounds i true) a' w') : wpK P ops Q k0 (ChgF B h0 w) (fuel + 1) listed a w:=by
  refine kg_one i hi (Zf8 H hj ht) hr ?_;refine Zic (f:=f) (args:=vs.toArray) (by
    have:=Zdh H.eval xs vs e;simp [execOp,resolve,Act.eval,Deferred.ofValue,invoke,Kb hf,this]) hc fun v w' hv=>?_
  exact⟨hΦ v w' hv,h v w' hv _ (H.put d v hd)⟩
end
end Go.Proofs.YtjekfpnpfllaoaaGreatDoor
set_option linter.unusedVariables false
set_option linter.unusedSectionVars false
namespace Go.Proofs.YtjekfpnpfllaoaaGreatDoor
open Go Go.RowKit
theorem ChgF.agr0 {B : List Nat} {h0 : Nat} {w0 w w' : World} (hx : Ext w0 w) (hh : w0.heap.size ≤ h0) (hn : ∀ b ∈ B,w0.heap.size ≤ b) (hw : ChgF B h0 w w') : Agr w0 w':=fun k hk=>
  (hw.block k (Nat.lt_of_lt_of_le hk hx.size) (Nat.lt_of_lt_of_le hk hh) fun hm=>by have:=hn k hm;omega).trans (hx.block k hk)
theorem SlR.old {B : List Nat} {h0 : Nat} {w0 w : World} {v : Value} {xs : List UInt8} (h : SlR w0 1 (Qs eB) v xs) (hx : Ext w0 w) (hh : w0.heap.size ≤ h0) (hn : ∀ b ∈ B,w0.heap.size ≤ b) : ∀ w',ChgF B h0 w w' → SlR w' 1 (Qs eB) v xs:=fun w' hw=>h.agr (Qs.mono _) (ChgF.agr0 hx hh hn hw)
end Go.Proofs.YtjekfpnpfllaoaaGreatDoor
set_option linter.unusedVariables false
set_option linter.unusedSimpArgs false
set_option linter.unusedSectionVars false
namespace Go.Proofs.YtjekfpnpfllaoaaGreatDoor
open Go Go.RowKit
section
variable {σ ρ : Type} {b : σ → Option (σ ⊕ ρ)}
def Qz (b : σ → Option (σ ⊕ ρ)) : Nat → σ → Option ρ
  | 0,_=>none
  | n + 1,s=>match b s with
    | none=>none
    | some (.inl s')=>Qz b n s'
    | some (.inr r)=>some r
theorem Zlc {r : ρ} : ∀ {n : Nat} {s : σ},Qz b n s=some r → Qz b (n + 1) s=some r
  | 0,s,h=>by cases h
  | n + 1,s,h=>by
    unfold Qz at h ⊢;cases hb : b s with
    | none=>rw [hb] at h;cases h
    | some o=>
      rw [hb] at h;cases o with
      | inl s'=>exact Zlc (n := n) h
      | inr z=>exact h
theorem Zld {r : ρ} {n m : Nat} {s : σ} (h : Qz b n s=some r) (hm : n ≤ m) : Qz b m s=some r:=by
  induction hm with
  | refl=>exact h
  | step _ ih=>exact Zlc ih
theorem Zrb {r r' : ρ} {n m : Nat} {s : σ} (h : Qz b n s=some r) (k : Qz b m s=some r') : r=r':=by
  have h1:=Zld h (Nat.le_max_left n m);have h2:=Zld k (Nat.le_max_right n m);rw [h1] at h2;exact Option.some.inj h2
open Classical in
noncomputable def Kq (b : σ → Option (σ ⊕ ρ)) (s : σ) : Option ρ:=if h : ∃ r n,Qz b n s=some r then some h.choose else none
theorem Zx {r : ρ} {s : σ} (h : Kq b s=some r) : ∃ n,Qz b n s=some r:=by
  unfold Kq at h;split at h
  · rename_i hx
    have:=hx.choose_spec;rw [← Option.some.inj h];exact this
  · cases h
theorem Zob {r : ρ} {n : Nat} {s : σ} (h : Qz b n s=some r) : Kq b s=some r:=by
  unfold Kq;have hx : ∃ r n,Qz b n s=some r:=⟨r,n,h⟩;rw [dif_pos hx];obtain⟨m,hm⟩:=hx.choose_spec;rw [Zrb hm h]
theorem Hw {s s' : σ} (h : b s=some (.inl s')) : Kq b s=Kq b s':=by
  cases hq : Kq b s' with
  | some r=>
    obtain⟨n,hn⟩:=Zx hq;exact Zob (n:=n + 1) (by unfold Qz;rw [h];exact hn)
  | none=>
    cases hp : Kq b s with
    | none=>rfl
    | some r=>
      obtain⟨n,hn⟩:=Zx hp;cases n with
      | zero=>cases hn
      | succ n=>
        unfold Qz at hn;rw [h] at hn;rw [Zob hn] at hq;cases hq
theorem Ue {s : σ} {r : ρ} (h : b s=some (.inr r)) : Kq b s=some r:=Zob (n:=1) (by unfold Qz;rw [h])
def Nx (b : σ → Option (σ ⊕ ρ)) (m : Nat) (r : ρ) : σ ⊕ ρ → Prop
  | .inl s'=>Qz b m s' = some r
  | .inr z=>z=r
theorem Zu {r : ρ} : ∀ {n : Nat} {s : σ},Qz b n s=some r → ∃ m o,n=m + 1 ∧ b s=some o ∧ Nx b m r o
  | 0,s,h=>by cases h
  | n + 1,s,h=>by
    unfold Qz at h;cases hb : b s with
    | none=>rw [hb] at h;cases h
    | some o=>
      rw [hb] at h;cases o with
      | inl s'=>exact⟨n,.inl s',rfl,rfl,h⟩
      | inr z=>exact⟨n,.inr z,rfl,rfl,Option.some.inj h⟩
end
section
variable {α β : Type} {r : β}
theorem Zh {o : Option α} {f : α → Option β} (h : o.bind f=some r) : ∃ x,o=some x ∧ f x=some r:=by
  cases o with
  | none=>cases h
  | some x=>exact⟨x,rfl,h⟩
theorem Zm {c : Bool} {x y : Option β} (h : (bif c then x else y)=some r) (hc : c=true) : x=some r:=by rw [hc] at h;exact h
theorem Zn {c : Bool} {x y : Option β} (h : (bif c then x else y)=some r) (hc : c=false) : y=some r:=by rw [hc] at h;exact h
def rdI (xs : List α) (z : Int) : Option α:=if 0 ≤ z then xs[z.toNat]? else none
theorem Qh {xs : List α} {z : Int} {x : α} (h : rdI xs z=some x) : 0 ≤ z ∧ z < xs.length ∧ xs[z.toNat]? = some x:=by
  unfold rdI at h;split at h
  · rename_i h0
    have:=(List.getElem?_eq_some_iff.1 h).1;exact⟨h0,by omega,h⟩
  · cases h
theorem Zhc (xs : List α) (i : Nat) : rdI xs (i : Int)=xs[i]?:=by simp [rdI]
def chk (p : Prop) [Decidable p] (o : Option β) : Option β:=if p then o else none
theorem Ze7 {p : Prop} [Decidable p] {o : Option β} (h : chk p o=some r) : p ∧ o=some r:=by
  unfold chk at h;split at h
  · rename_i hp;exact⟨hp,h⟩
  · cases h
theorem Zu4 {p : Prop} [Decidable p] {o : Option β} (h : p) : chk p o=o:=if_pos h
def rdS (s : ByteArray) (z : Int) : Option Int:=if h : 0 ≤ z ∧ z.toNat < s.size then some ((s[z.toNat]'h.2).toNat : Int) else none
theorem Zpf {s : ByteArray} {z x : Int} (h : rdS s z=some x) : ∃ (h0 : 0 ≤ z) (h1 : z.toNat < s.size),x=((s[z.toNat]'h1).toNat : Int):=by
  unfold rdS at h;split at h
  · rename_i hp;exact⟨hp.1,hp.2,(Option.some.inj h).symm⟩
  · cases h
theorem Yj {α : Type} {xs : List α} {i : Nat} {x : α} (h : xs[i]? = some x) : i < xs.length:=(List.getElem?_eq_some_iff.1 h).1
end
section
variable {P : Program} {ops : Array Oper} {Q : Exit → Act → World → Prop} {Qp : Act → Prop} {rest : List Oper} {a : Act} {n : Nat} {l : List (Nat × Option Value)} {w : World}
  {ty : TypeId} {pos : String} {af : Array Edge} {op : Op} {d : Nat}
theorem Zlr {j t : Nat} {want b : Bool} {dst : Option Nat} (H : Has a n l) (hj : (ops[j]?).bind (·.dst)=some t) (ht : lk l t=some (.bool b)) (hb : b ≠ want) : ¬ Region.wanted ⟨dst,op,ty,pos,af,some (j,want)⟩ (yielded ops a.tmps)=true:=fun hw=>by
  have hy : yielded ops a.tmps j=some b:=Zbp H hj ht;have:=(He (o:=⟨dst,op,ty,pos,af,some (j,want)⟩) rfl).1 hw;simp only at this;rw [hy] at this;exact hb (Option.some.inj this)
theorem Zrc {j t : Nat} {want : Bool} {dst : Option Nat} (H : Has a n l) (hj : (ops[j]?).bind (·.dst)=some t) (ht : lk l t=some undef) : ¬ Region.wanted ⟨dst,op,ty,pos,af,some (j,want)⟩ (yielded ops a.tmps)=true:=fun hw=>by
  have hv:=H.val t _ ht;have:=(He (o:=⟨dst,op,ty,pos,af,some (j,want)⟩) rfl).1 hw;simp only [yielded,hj,Option.bind_some,hv,undef] at this;cases this
theorem Zm1 {j t : Nat} {want : Bool} (H : Has a n l) (hj : (ops[j]?).bind (·.dst)=some t) (ht : lk l t=some undef) (hd : Nat.blt d n=true) (h : ∀ a',Has a' n ((d,some undef) :: l) → wpList P ops Q rest a' w) :
    wpList P ops Q (⟨some d,op,ty,pos,af,some (j,want)⟩ :: rest) a w:=by
  refine wpList_step fun K hK=>?_
  rw [if_neg (Zrc H hj ht)];exact hK _ _ (h _ (H.put d undef hd))
theorem n_no {j t : Nat} {want b : Bool} (H : Has a n l) (hj : (ops[j]?).bind (·.dst)=some t) (ht : lk l t=some (.bool b)) (hb : b ≠ want) (hd : Nat.blt d n=true) (h : ∀ a',Has a' n ((d,some undef) :: l) → wpList P ops Q rest a' w) :
    wpList P ops Q (⟨some d,op,ty,pos,af,some (j,want)⟩ :: rest) a w:=by
  refine wpList_step fun K hK=>?_
  rw [if_neg (Zlr H hj ht hb)];exact hK _ _ (h _ (H.put d undef hd))
theorem Qt {dst : Option Nat} {j t : Nat} {want : Bool} (H : Has a n l) (hj : (ops[j]?).bind (·.dst)=some t) (ht : lk l t=some (.bool want))
    (h : wpList P ops Q (⟨dst,op,ty,pos,af,none⟩ :: rest) a w) : wpList P ops Q (⟨dst,op,ty,pos,af,some (j,want)⟩ :: rest) a w:=
  nc_yes (H.c ops) hj ht h
theorem Xh {j t : Nat} {want b : Bool} (H : Has a n l) (hj : (ops[j]?).bind (·.dst)=some t) (ht : lk l t=some (.bool b)) (hb : b ≠ want) (hd : Nat.blt d n=true) (h : ∀ a',Has a' n ((d,some undef) :: l) → wpQuiet P ops (Ext w) Qp rest a') :
    wpQuiet P ops (Ext w) Qp (⟨some d,op,ty,pos,af,some (j,want)⟩ :: rest) a:=by
  refine wpQuiet_step fun K hK=>?_
  rw [if_neg (Zlr H hj ht hb)];exact hK _ (h _ (H.put d undef hd))
theorem Xj {dst : Option Nat} {j t : Nat} {want : Bool} (H : Has a n l) (hj : (ops[j]?).bind (·.dst)=some t) (ht : lk l t=some (.bool want))
    (h : wpQuiet P ops (Ext w) Qp (⟨dst,op,ty,pos,af,none⟩ :: rest) a) : wpQuiet P ops (Ext w) Qp (⟨dst,op,ty,pos,af,some (j,want)⟩ :: rest) a:=by
  have hy : yielded ops a.tmps j=some want:=Zbp H hj ht;have hw : Region.wanted ⟨dst,op,ty,pos,af,some (j,want)⟩ (yielded ops a.tmps)=true:=(He (g:=(j,want)) (o:=⟨dst,op,ty,pos,af,some (j,want)⟩) rfl).2 hy;have hw2 : Region.wanted ⟨dst,op,ty,pos,af,none⟩ (yielded ops a.tmps)=true:=by simp [Region.wanted]
  have h' : if Region.wanted ⟨dst,op,ty,pos,af,none⟩ (yielded ops a.tmps) then Oper.quiet P ⟨dst,op,ty,pos,af,none⟩ a (Ext w) (wpQuiet P ops (Ext w) Qp rest) else wpQuiet P ops (Ext w) Qp rest (a.put dst undef):=h;rw [if_pos hw2] at h';refine wpQuiet_step fun K hK=>?_
  rw [if_pos hw];obtain⟨v,h1,h2⟩:=h';exact⟨v,fun w' hw'=>by have:=h1 w' hw';unfold Oper.quietAt at this ⊢;rw [Zf7];exact this,hK _ h2⟩
end
section
variable {P : Program} {L : Operand → Option Value} {C : World → Prop} {x y z : Operand} {t t' : TypeId} {v : Value} {A : Option Addr} {ad : Addr} {n c i j : Nat}
theorem Zr {T e : TypeId} (ht : P.underlying T=some (.slice e)) (ex : L x=some v) (hv : v=.slice A n c) : Q1 P L (.call { callee:=.builtin .len,args:=#[x],argTypes:=#[T] }) C (.int .i64 n):=Zqw ht (hv ▸ ex)
theorem Qr {T e k : Nat} {q : IntKind} (ht : P.underlying T=some (.slice e)) (hk : Xb P e=some k) (ex : L x=some v) (hv : v=.slice A n c) (hA : A=some ad) (ey : L y=some (.int q ((i : Nat) : Int))) (hn : i < n) :
    Q1 P L (.indexAddr T x y) C (.pointer (some (ad.add (i * k)))):=by
  have:=Zdi (C:=C) ht hk (show L x=some (.slice (some ad) n c) by rw [ex,hv,hA]) ey (by omega) (by omega);exact Xy this (by simp)
theorem Xk {T e k : Nat} {q : IntKind} {z : Int} (ht : P.underlying T=some (.slice e)) (hk : Xb P e=some k) (ex : L x=some v) (hv : v=.slice A n c) (hA : A=some ad) (ey : L y=some (.int q z)) (h0 : 0 ≤ z) (hn : z < n) :
    Q1 P L (.indexAddr T x y) C (.pointer (some (ad.add (z.toNat * k)))):=
  Zdi ht hk (show L x=some (.slice (some ad) n c) by rw [ex,hv,hA]) ey h0 hn
theorem Qw (ex : L x=some (.int .i64 ((i : Nat) : Int))) (ey : L y=some (.int .i64 ((j : Nat) : Int))) (h : i + j ≤ 9223372036854775807) : Q1 P L (.binOp .add t x y t') C (.int .i64 ((i + j : Nat) : Int)):=
  Xy (q_add ex ey (by constructor <;> omega)) (by simp)
section
variable (ex : L x=some (.int .i64 ((i : Nat) : Int))) (ey : L y=some (.int .i64 ((j : Nat) : Int)))
include ex ey
theorem Qu : Q1 P L (.binOp .lss t x y t') C (.bool (decide (i < j))):=Xy (Yu ex ey) (by simp)
theorem Za0 : Q1 P L (.binOp .gtr t x y t') C (.bool (decide (j < i))):=Xy (Tv ex ey) (by simp)
theorem Zeq : Q1 P L (.binOp .eql t x y t') C (.bool (decide (i=j))):=Xy (q_eql ex ey) (by congr 1;rw [Bool.eq_iff_iff];simp;omega)
theorem Zaa : Q1 P L (.binOp .neq t x y t') C (.bool (!decide (i=j))):=Xy (Zst ex ey) (by congr 1;rw [Bool.eq_iff_iff];simp;omega)
end
section
variable {k : IntKind} {a b : Int} (ex : L x=some (.int k a)) (ey : L y=some (.int k b))
include ex ey
theorem Ql : Q1 P L (.binOp .eql t x y t') C (.bool (decide (a=b))):=Xy (q_eql ex ey) (by congr 1)
theorem Jx : Q1 P L (.binOp .neq t x y t') C (.bool (!decide (a=b))):=Xy (Zst ex ey) (by congr 1)
end
theorem q_ixS {T : TypeId} {s : ByteArray} {q : IntKind} {z u : Int} (ht : P.underlying T=some .string) (ex : L x=some (.string s)) (ey : L y=some (.int q z)) (h : rdS s z=some u) : Q1 P L (.index T x y) C (.int .u8 u):=by
  obtain⟨h0,h1,rfl⟩:=Zpf h;exact Zsv ht ex ey h0 h1
end
section
variable {P : Program} {w : World} {α : Type} {e : α → List Value} {R : World → List Value → α → Prop} {k : Nat} {v : Value} {A : Option Addr} {ad : Addr} {n c i : Nat} {xs : List α} {x : α} {T : TypeId} {u : Value}
theorem SlR.formV (h : SlR w k R v xs) : ∃ A c,v=.slice A xs.length c ∧ xs.length ≤ c ∧ c ≤ 9223372036854775807:=by
  obtain⟨A,c,h1,h2,h3,_⟩:=h.form;exact⟨A,c,h1,h2,h3⟩
theorem SlR.adV (h : SlR w k R v xs) (hv : v=.slice A n c) (hx : xs[i]? = some x) : ∃ ad,A=some ad:=by
  subst hv;obtain⟨A',c',h1,h2,h3,h4,h5⟩:=id h;cases h1
  exact h.addr (List.getElem?_eq_some_iff.1 hx).1
theorem SlR.ldOneV (h : SlR w 1 (Qs e) v xs) (hv : v=.slice A n c) (hA : A=some ad) (ht : Ty P T=some false) (hx : xs[i]? = some x) (he : e x=[u]) : LdX P T w (ad.add (i * 1)) u:=by
  subst hv;subst hA;exact h.ldOne ht hx he
theorem SlR.ldAggV (h : SlR w k (Qs e) v xs) (hv : v=.slice A n c) (hA : A=some ad) (ht : Ty P T=some true) (hs : Xb P T=some k) (hx : xs[i]? = some x) : LdX P T w (ad.add (i * k)) (.agg (e x).toArray):=by
  subst hv;subst hA;exact h.ldAgg ht hs hx
theorem SlR.ldCellV {j : Nat} (h : SlR w k (Qs e) v xs) (hv : v=.slice A n c) (hA : A=some ad) (ht : Ty P T=some false) (hx : xs[i]? = some x) (he : (e x)[j]? = some u) : LdX P T w ((ad.add (i * k)).add j) u:=by
  subst hv;subst hA;exact h.ldCell ht hx he
theorem SlR.ldPartV {j m : Nat} {ds : List Value} (h : SlR w k (Qs e) v xs) (hv : v=.slice A n c) (hA : A=some ad) (ht : Ty P T=some true) (hs : Xb P T=some m) (hx : xs[i]? = some x) (hd : ((e x).drop j).take m=ds) (hl : ds.length=m) : LdX P T w ((ad.add (i * k)).add j) (.agg ds.toArray):=by
  subst hv;subst hA;obtain⟨cs,h1,h2,h3⟩:=h.el hx;have h2' : cs=e x:=h2;subst h2';refine LdX.agg ht (by rw [hs,hl]) fun q u hu=>?_
  rw [Zdg,Zdg];refine h3 (j + q) u ?_;rw [← hd,List.getElem?_take] at hu;split at hu
  · simpa using hu
  · cases hu
end
section
variable {P : Program} {w : World} {α : Type} {e : α → List Value} {R : World → List Value → α → Prop} {k : Nat} {v : Value} {A : Option Addr} {ad : Addr} {n c i : Nat} {xs : List α} {x : α} {T : TypeId} {u : Value}
theorem SlR.nil (w : World) (k : Nat) (R : World → List Value → α → Prop) : SlR w k R (.slice none 0 0) []:=⟨none,0,rfl,Nat.le_refl _,Nat.zero_le _,fun _=>⟨rfl,rfl⟩,fun ad h=>by cases h⟩
theorem SlR.elV (h : SlR w k R v xs) (hv : v=.slice A n c) (hA : A=some ad) (hx : xs[i]? = some x) : ∃ cs : List Value,cs.length=k ∧ R w cs x ∧ ∀ j u,cs[j]? = some u → w.cell? (ad.add (i * k + j))=some u:=by
  subst hv;subst hA;exact h.el hx
theorem Zfx {j : Nat} {cs : List Value} (ht : Ty P T=some false) (hc : ∀ j u,cs[j]? = some u → w.cell? (ad.add (i * k + j))=some u) (hj : cs[j]? = some v) : LdX P T w ((ad.add (i * k)).add j) v:=
  LdX.one ht (by rw [Zdg];exact hc j v hj)
theorem Src.nil (w : World) (k : Nat) {e : α → List Value} : Src w k (.slice none 0 0) ([] : List α).length (([] : List α).flatMap e):=.inl ⟨0,rfl,rfl,rfl⟩
theorem St.blkOwnL {fp : Nat → Prop} {w0 : World} {rs : List Rs} {b : Nat} {cs : List Value} {e : α → List Value} {k : Nat} (xs : List α) (h : St fp w0 w (blkR b cs T :: rs)) (hc : cs=xs.flatMap e) (hn : cs.length=xs.length * k) (hm : xs.length ≤ maxLen) :
    St fp w0 w (ownR T k (.slice (some ⟨b,0,none⟩) xs.length xs.length) xs.length (xs.flatMap e) :: rs):=by
  subst hc;exact h.blkOwn xs.length k hn hm
theorem Zjm (hl : ∀ z : α,(e z).length=k) : ∀ (xs : List α) (i j : Nat) (x : α) (u : Value),xs[i]? = some x → j < k → ∀ x',e x' = (e x).set j u → (xs.flatMap e).set (i * k + j) u=(xs.set i x').flatMap e
  | [],i,j,x,u,h,_,_,_=>by simp at h
  | y :: ys,0,j,x,u,h,hj,x',hx=>by
    simp only [List.getElem?_cons_zero,Option.some.injEq] at h;subst h;simp only [List.flatMap_cons,List.set_cons_zero,Nat.zero_mul,Nat.zero_add];rw [List.set_append_left _ _ (by rw [hl];exact hj),hx]
  | y :: ys,i + 1,j,x,u,h,hj,x',hx=>by
    simp only [List.getElem?_cons_succ] at h;simp only [List.flatMap_cons,List.set_cons_succ];rw [List.set_append_right _ _ (by rw [hl,Nat.succ_mul];omega),hl];have e1 : (i + 1) * k + j - k=i * k + j:=by rw [Nat.succ_mul];omega
    rw [e1,Zjm hl ys i j x u h hj x' hx]
theorem Zjn (hl : ∀ z : α,(e z).length=k) (x' : α) : ∀ (xs : List α) (i : Nat),i < xs.length → (xs.flatMap e).take (i * k) ++ e x' ++ (xs.flatMap e).drop (i * k + (e x').length)=(xs.set i x').flatMap e
  | [],i,h=>by simp at h
  | y :: ys,0,h=>by
    simp only [List.flatMap_cons,List.set_cons_zero,Nat.zero_mul,Nat.zero_add,List.take_zero,List.nil_append];rw [hl,List.drop_append_of_le_length (by rw [hl];exact Nat.le_refl _),List.drop_eq_nil_of_le (by rw [hl];exact Nat.le_refl _),List.nil_append]
  | y :: ys,i + 1,h=>by
    have ih:=Zjn hl x' ys i (by simpa using h);simp only [List.flatMap_cons,List.set_cons_succ];rw [← ih];have e1 : (i + 1) * k=(e y).length + i * k:=by rw [hl,Nat.succ_mul];omega
    rw [e1,List.take_length_add_append,Nat.add_assoc,List.drop_length_add_append];simp only [List.append_assoc]
end
section
variable {P : Program} {ops : Array Oper} {Q : Exit → Act → World → Prop} {rest : List Oper} {a : Act} {n : Nat} {l : List (Nat × Option Value)} {w : World}
  {ty : TypeId} {pos : String} {af : Array Edge} {d : Nat} {v u : Value}
theorem Has.know {b c : Bool} (H : Has a n l) (t : Nat) (ht : lk l t=some (.bool b)) (e : b=c) : Has a n ((t,some (.bool c)) :: l):=by
  subst e;refine⟨H.size,H.defers,fun s v hv=>?_⟩;simp only [lk] at hv;cases hq : Nat.beq t s with
  | true=>
    rw [hq] at hv;obtain rfl:=Nat.eq_of_beq_eq_true hq;simp only [cond_true,Option.some.injEq] at hv;rw [← hv];exact H.val t _ ht
  | false=>rw [hq] at hv;exact H.val s v hv
theorem Zls {c : Operand} {x y : Code} (H : Has a n l) (e : lo l c=some (.bool true)) (h : x.wp P Q a w) : (Code.cond c x y).wp P Q a w:=Zk H e (fun _=>h) (fun h=>by cases h)
theorem Zs8 {c : Operand} {x y : Code} (H : Has a n l) (e : lo l c=some (.bool false)) (h : y.wp P Q a w) : (Code.cond c x y).wp P Q a w:=Zk H e (fun h=>by cases h) (fun _=>h)
theorem Zc1 {α : Type} {e : α → List Value} {xs ys : List α} {x y : Operand} {t t' E k bytes : Nat} {z : List Value} {d' : TypeDesc} (H : Has a n l) (ex : lo l x=some v) (ey : lo l y=some u)
    (ht : P.underlying t=some (.slice E)) (ht' : P.underlying t' = some d') (hd' : ∀ q,d' ≠ .int q) (hE : ElemOk P E k bytes z) (hv : Own w E k v xs.length (xs.flatMap e)) (hx : Src w k u ys.length (ys.flatMap e)) (h1 : ∀ z,∀ c ∈ e z,c.oneCell' = true)
    (hb : (xs.length + ys.length) * bytes ≤ 140737488355328) (h63 : xs.length + ys.length ≤ maxLen) (hd : Nat.blt d n=true)
    (h : ∀ v' w',Own w' E k v' (xs ++ ys).length ((xs ++ ys).flatMap e) → Chg (Zap v) w w' → (Zap v' = Zap v ∨ ∃ b,Zap v' = [b] ∧ w.heap.size ≤ b) → ∀ a',Has a' n ((d,some v') :: l) → wpList P ops Q rest a' w') :
    wpList P ops Q (⟨some d,.call { callee:=.builtin .append,args:=#[x,y],argTypes:=#[t,t'] },ty,pos,af,none⟩ :: rest) a w:=
  Zo8 H ex ey ht ht' hd' hE hv hx (Zpb h1 ys) hb h63 hd fun v' w' hO hC hb _ a' H'=>h v' w' (by rw [List.length_append,List.flatMap_append];exact hO) hC hb a' H'
section
variable {α : Type} {e : α → List Value} {xs : List α} {x' x0 : α} {x y : Operand} {t E k i j n0 c : Nat} {A : Option Addr} {ad : Addr}
theorem Zle (H : Has a n l) (ex : lo l x=some (.pointer (some ((ad.add (i * k)).add j)))) (ey : lo l y=some u) (hs : Xb P t=some 1) (hO : Own w E k v xs.length (xs.flatMap e)) (hv : v=.slice A n0 c) (hA : A=some ad) (hx : xs[i]? = some x0)
    (hu : e x' = (e x0).set j u) (hl : ∀ z,(e z).length=k) (hj : j < k) (h1 : u.oneCell' = true)
    (h : ∀ w',Own w' E k v (xs.set i x').length ((xs.set i x').flatMap e) → Chg (Zap v) w w' → ∀ a',Has a' n l → wpList P ops Q rest a' w') :
    wpList P ops Q (⟨none,.store t x y,ty,pos,af,none⟩ :: rest) a w:=by
  have hi:=(List.getElem?_eq_some_iff.1 hx).1
  rcases id hO with ⟨rfl,h0,_⟩ | ⟨b,cap,cs,rfl,hB,h2,h3,h4,h5,h6⟩
  · omega
  · cases hv;cases hA
    rw [Yx,Tj] at ex;have hik : i * k + k ≤ xs.length * k:=by
      have:=Nat.mul_le_mul_right k (show i + 1 ≤ xs.length from hi)
      rwa [Nat.succ_mul] at this
    refine Zq9 H ex ey hs h1 hO (by omega) fun w' hO' hC a' H'=>h w' ?_ (by simpa [Zap] using hC) a' H'
    rw [Zjm hl xs i j x0 u hx hj x' hu] at hO';rw [List.length_set];exact hO'
end
end
def Zu5 (p : Int) : ErrM → Option ErrM
  | .v g=>some (.pl p g)
  | _=>none
theorem Zpu {p : Int} {e r : ErrM} (h : Zu5 p e=some r) : ∃ g,e=.v g ∧ r=.pl p g:=by
  cases e with
  | v g=>exact⟨g,rfl,(Option.some.inj h).symm⟩
  | nil=>cases h
  | pl _ _=>cases h
theorem Zlt {place : Nat → Option (Nat × Nat)} {i off : Nat} {v : Value} {zs : List Value} {rest : List (Nat × Value)} (h : v.oneCell' = true) (hp : place i=some (off,1)) (hl : off < zs.length) :
    Instr.fill place zs.toArray ((i,v) :: rest)=Instr.fill place (zs.set off v).toArray rest:=by
  rw [Instr.fill,hp];simp only [Zji h];have : ¬ (off + 1 > zs.length):=by omega
  simp [this,List.zipIdx]
section
variable {P : Program} {ops : Array Oper} {Q : Exit → Act → World → Prop} {a : Act} {n : Nat} {l : List (Nat × Option Value)} {w : World} {B : List Nat} {k0 h0 : Nat}
  {op : Op} {ty : TypeId} {pos : String} {af : Array Edge} {d fuel : Nat} {v : Value} {listed : Array Bool} {j t : Nat} {want b : Bool}
theorem k_no (i : Nat) (H : Has a n l) (hi : ops[i]? = some ⟨some d,op,ty,pos,af,some (j,want)⟩) (hj : (ops[j]?).bind (·.dst)=some t) (ht : lk l t=some (.bool b)) (hn : b ≠ want) (hd : Nat.blt d n=true) (hs : Region.noSelect ops=true) (hf : Region.free .any ops listed i=true)
    (hr : (Region.ready .any ops listed).contains i=true) (hb : (!(Nat.beq i k0) && (Nat.beq listed.size ops.size))=true) (hQ : ∀ c a w,Q (.panic c) (a.put (some d) undef) w → Q (.panic c) a w)
    (h : ∀ a',Has a' n ((d,some undef) :: l) → wpK P ops Q k0 (ChgF B h0 w) fuel (listed.setIfInBounds i true) a' w) : wpK P ops Q k0 (ChgF B h0 w) (fuel + 1) listed a w:=by
  simp only [Bool.and_eq_true,Bool.not_eq_true'] at hb;obtain⟨h2,h4⟩:=hb;exact Zie (oi:=⟨some d,op,ty,pos,af,some (j,want)⟩) (v:=undef) hi (Region.noSelect_spec hs) hQ (fun e=>by rw [e,Nat.beq_refl] at h2;cases h2) fuel listed a w (Nat.eq_of_beq_eq_true h4) (Region.free_spec hi hf) (by simpa using hr)
    (.inr ⟨by simpa using Zlr (dst:=some d) (op:=op) (ty:=ty) (pos:=pos) (af:=af) H hj ht hn,rfl⟩) (fun _=>ChgF.refl _ _ _) (h _ (H.put d undef hd))
end
end Go.Proofs.YtjekfpnpfllaoaaGreatDoor
set_option linter.unusedVariables false
set_option linter.unusedSimpArgs false
set_option linter.unusedSectionVars false
namespace Go.Proofs.YtjekfpnpfllaoaaGreatDoor
open Go Go.RowKit
section
variable {α : Type} {n : Nat}
def rdV (v : Vector α n) (z : Int) : Option α:=if 0 ≤ z then v[z.toNat]? else none
theorem Ze8 {v : Vector α n} {z : Int} {x : α} (h : rdV v z=some x) : 0 ≤ z ∧ z < n ∧ v[z.toNat]? = some x:=by
  unfold rdV at h;split at h
  · rename_i h0
    have:=(Vector.getElem?_eq_some_iff.1 h).1;exact⟨h0,by omega,h⟩
  · cases h
theorem Zoc (v : Vector α n) (i : Nat) : rdV v (i : Int)=v[i]?:=by simp [rdV]
theorem Zuj {v : Vector α n} {i : Nat} {x : α} (h : v[i]? = some x) : v.toList[i]? = some x:=by
  obtain⟨hi,rfl⟩:=Vector.getElem?_eq_some_iff.1 h;rw [List.getElem?_eq_getElem (by simpa using hi)];simp
theorem Zuk {A B : List Value} {v : Vector α n} {f : α → Value} {i : Nat} {x : α} (h : v[i]? = some x) : ((A ++ v.toList.map f) ++ B)[A.length + i]? = some (f x):=by
  have hi:=(Vector.getElem?_eq_some_iff.1 h).1;rw [List.getElem?_append_left (by simp;omega),List.getElem?_append_right (by omega)];simp [Zuj h]
theorem Zrd {B : List Value} {v : Vector α n} {f : α → Value} {i : Nat} {x : α} (h : v[i]? = some x) : (v.toList.map f ++ B)[i]? = some (f x):=by
  have:=Zuk (A:=[]) (B:=B) (f:=f) h
  simpa using this
theorem Zu6 {A : List Value} {v : Vector α n} {f : α → Value} {i : Nat} {x : α} (h : v[i]? = some x) : (A ++ v.toList.map f)[A.length + i]? = some (f x):=by
  have:=Zuk (A:=A) (B:=[]) (f:=f) h
  simpa using this
theorem Zu7 {v : Vector α n} {f : α → Value} {i : Nat} {x : α} (h : v[i]? = some x) : (v.toList.map f)[i]? = some (f x):=by simp [Zuj h]
theorem Zu8 (v : Vector α n) (f : α → Value) (i : Nat) (y : α) : (v.toList.map f).set i (f y)=(v.setIfInBounds i y).toList.map f:=by
  rw [← List.map_set]
  congr 1
  simp
theorem Zjo {v u : Vector α n} : v.toList=u.toList ↔ v=u:=by
  constructor
  · intro h;cases v;cases u;simp at h;simpa using h
  · intro h;rw [h]
end
section
variable {P : Program} {L : Operand → Option Value} {C : World → Prop} {x y : Operand} {ad : Addr} {q : IntKind} {z : Int}
theorem Zlu {T e len : Nat} (ht : P.underlying T=some (.array len e)) (hk : Xb P e=some 1) (ex : L x=some (.pointer (some ad))) (ey : L y=some (.int q z)) (h0 : 0 ≤ z) (hn : z < len) : Q1 P L (.indexAddr T x y) C (.pointer (some (ad.add z.toNat))):=
  fun ρ h w' _ dst ty pos af g=>by simp [execOp,h x _ ex,h y _ ey,Instr.indexAt,Instr.sureAddr,asIntOf,run_underlying ht,h0,hn,Hd hk]
theorem Zlv {T e len b o : Nat} (ht : P.underlying T=some (.array len e)) (hk : Xb P e=some 1) (ex : L x=some (.pointer (some ⟨b,o,none⟩))) (ey : L y=some (.int q z)) (h0 : 0 ≤ z) (hn : z < len) : Q1 P L (.indexAddr T x y) C (.pointer (some ⟨b,o + z.toNat,none⟩)):=by
  have:=Zlu (C:=C) ht hk ex ey h0 hn
  rwa [Tj] at this
theorem Zu9 {T e len : Nat} {cs : List Value} {v : Value} (ht : P.underlying T=some (.array len e)) (hk : Xb P e=some 1) (ha : Ty P e=some false) (ex : L x=some (.agg cs.toArray)) (ey : L y=some (.int q z)) (h0 : 0 ≤ z) (hn : z < len) (hv : cs[z.toNat]? = some v) : Q1 P L (.index T x y) C v:=
  fun ρ h w' _ dst ty pos af g=>by
    have:=Vd (cs:=cs) ha hv w';simp [execOp,h x _ ex,h y _ ey,Instr.index,asIntOf,run_underlying ht,h0,hn,Hd hk,this]
theorem Zpv {t e k len : Nat} {ps : List (Nat × Operand)} {vs : List (Nat × Value)} {zs cs : List Value} (ht : P.underlying t=some (.array len e)) (hk : Xb P e=some k) (hz : Tw P t=some zs)
    (e : loP L ps=some vs) (hf : Instr.fill (fun i=>some (i * k,k)) zs.toArray vs=some cs.toArray) : Q1 P L (.build t ps.toArray) C (.agg cs.toArray):=
  fun ρ h w' _ dst ty pos af g=>by
    obtain⟨z,hr,hzc⟩:=Zhu hz w';have hp:=Zlp h ps vs e;have hrun : (Instr.build t (ps.toArray.map fun p=>(p.1,ρ p.2))).run P w' = .ok (.agg cs.toArray) w':=by
      unfold Instr.build;simp only [Sem.run_bind,hr,Result.andThen_ok,Sem.run_pure,run_underlying ht,Hd hk,hzc];simp only [List.map_toArray,hp,hf];simp
    simp only [execOp];rw [Sem.run_bind,hrun];rfl
theorem Zs9 {t e n : Nat} {k : IntKind} {v u : Vector Int n} (ht : P.underlying t=some (.array n e)) (hs : Xb P e=some 1) (ha : Ty P e=some false) (he : P.underlying e=some (.int k)) :
    Zmx P t 2 (.agg (v.toList.map (Value.int k)).toArray) (.agg (u.toList.map (Value.int k)).toArray) (decide (v=u)):=by
  have h:=Zmy (xs:=v.toList) (ys:=u.toList) ht hs ha he (by simp) (by simp);have e : decide (v=u)=decide (v.toList=u.toList):=by rw [Bool.eq_iff_iff];simp [Zjo]
  rw [e];exact h
theorem Zhy {t e n : Nat} {v u : Vector UInt8 n} (ht : P.underlying t=some (.array n e)) (hs : Xb P e=some 1) (ha : Ty P e=some false) (he : P.underlying e=some (.int .u8)) :
    Zmx P t 2 (.agg (v.toList.map fun b=>Value.int .u8 (b.toNat : Int)).toArray) (.agg (u.toList.map fun b=>Value.int .u8 (b.toNat : Int)).toArray) (decide (v=u)):=by
  have h:=Zmy (k:=.u8) (xs:=v.toList.map fun b=>(b.toNat : Int)) (ys:=u.toList.map fun b=>(b.toNat : Int)) ht hs ha he (by simp) (by simp);simp only [List.map_map] at h;have e : decide (v=u)=decide ((v.toList.map fun b=>(b.toNat : Int))=(u.toList.map fun b=>(b.toNat : Int))):=by
    rw [Bool.eq_iff_iff];simp only [decide_eq_true_eq];rw [← Zjo];constructor
    · intro h;rw [h]
    · intro h;refine (List.map_inj_right (f:=fun b : UInt8=>(b.toNat : Int)) ?_).1 h;intro a b hab;exact UInt8.toNat_inj.1 (by have hab' : (a.toNat : Int)=b.toNat:=hab;omega)
  rw [e];exact h
end
section
variable {P : Program} {w : World} {α : Type} {e : α → List Value} {R : World → List Value → α → Prop} {k : Nat} {v : Value} {A : Option Addr} {ad : Addr} {n c i : Nat} {xs : List α} {x : α} {T : TypeId} {u : Value}
theorem SlR.ldArrV {o j : Nat} (h : SlR w k (Qs e) v xs) (hv : v=.slice A n c) (hA : A=some ad) (ht : Ty P T=some false) (hx : xs[i]? = some x) (he : (e x)[o + j]? = some u) : LdX P T w (((ad.add (i * k)).add o).add j) u:=by
  rw [Zdg (ad.add (i * k))];exact h.ldCellV hv hA ht hx he
theorem SlR.nilV (h : SlR w k R v xs) (hv : v=.slice A n c) (hA : A.isNone=true) : xs=[]:=by
  subst hv;obtain⟨A',c',h1,h2,h3,h4,h5⟩:=h;cases h1
  exact (h4 (by simpa using hA)).1
theorem Zjp {L : Operand → Option Value} {C : World → Prop} {x y : Operand} {t t' el : TypeId} {n' c' : Nat} (ht : P.underlying t=some (.slice el)) (ex : L x=some v) (hv : v=.slice A n c) (ey : L y=some (.slice none n' c')) : Q1 P L (.binOp .eql t x y t') C (.bool A.isNone):=Zup ht (hv ▸ ex) ey
end
def Zm2 (ks : List Int) (es : List MapEntry) : Prop:=es.map (·.key)=ks.map (Value.int .i64) ∧ ∀ e ∈ es,e.val=.bool true
def Zki (r : Nat) (ks : List Int) (w : World) : Prop:=∃ es clock,w.heap[r]? = some (.map es clock) ∧ Zm2 ks es.toList
def mapR (r : Nat) (ks : List Int) : Rs where
  P w fp:=Zki r ks w ∧ ∀ c,fp c ↔ c=r
  lt h c hc:=by
    obtain⟨es,cl,h1,_⟩:=h.1
    rw [(h.2 c).1 hc]
    exact (Array.getElem?_eq_some_iff.1 h1).1
  loc h hw:=by
    obtain⟨⟨es,cl,h1,h2⟩,h3⟩:=h
    exact⟨⟨es,cl,(hw _ ((h3 _).2 rfl)).trans h1,h2⟩,h3⟩
def Zlw (ks : List Int) (k : Int) : List Int:=if k ∈ ks then ks else ks ++ [k]
theorem Zm3 {k : Int} {d : IntKind} : ∀ (ks : List Int) (es : List MapEntry) (i : Nat),Zm2 ks es → ∃ o,Instr.findNow (.int d) (.int .i64 k) es i=some o ∧ (k ∈ ks → ∃ j,o=some (i + j,.bool true) ∧ ∃ e,es[j]? = some e ∧ e.key=.int .i64 k) ∧ (k ∉ ks → o=none)
  | [],[],i,_=>⟨none,rfl,(fun h=>by cases h),(fun _=>rfl)⟩
  | [],e :: es,i,h=>by simp [Zm2] at h
  | z :: ks,[],i,h=>by simp [Zm2] at h
  | z :: ks,e :: es,i,⟨h1,h2⟩=>by
    simp only [List.map_cons,List.cons.injEq] at h1;obtain⟨hk,h1⟩:=h1;have hv:=h2 e List.mem_cons_self
    by_cases hz : k=z
    · subst hz;refine⟨some (i,.bool true),by simp [Instr.findNow,hk,Instr.sameNow,hv],fun _=>⟨0,rfl,e,rfl,hk⟩,fun h=>absurd List.mem_cons_self h⟩
    · obtain⟨o,ho,g1,g2⟩:=Zm3 (k:=k) (d:=d) ks es (i + 1) ⟨h1,fun x hx=>h2 x (List.mem_cons_of_mem _ hx)⟩;have hb : (k == z)=false:=by simpa using hz
      refine⟨o,by simp [Instr.findNow,hk,Instr.sameNow,hb,ho],fun h=>?_,fun h=>g2 fun h'=>h (List.mem_cons_of_mem _ h')⟩;obtain⟨j,hj,e',h3,h4⟩:=g1 (by simpa [hz] using h);exact⟨j + 1,by rw [hj];congr 2;omega,e',by simpa using h3,h4⟩
section
variable {P : Program} {w : World} {mt kt et r : Nat} {ks : List Int} {k : Int} {d : IntKind}
theorem Zpg {es : List MapEntry} (hk : P.underlying kt=some (.int d)) (h : Zm2 ks es) (w : World) : ∃ o,(Instr.findKey kt (.int .i64 k) es).run P w=.ok o w ∧ (k ∈ ks → ∃ j,o=some (j,.bool true) ∧ ∃ e,es[j]? = some e ∧ e.key=.int .i64 k) ∧ (k ∉ ks → o=none):=by
  obtain⟨o,h1,h2,h3⟩:=Zm3 (k:=k) (d:=d) ks es 0 h;refine⟨o,?_,by simpa using h2,h3⟩;simp [Instr.findKey,run_underlying hk,h1]
theorem Zjq (hk : P.underlying kt=some (.int d)) (b : Bool) (w : World) : (Instr.checkKey b 10000 kt (.int .i64 k)).run P w=.ok () w:=by
  show (Instr.checkKey b (9999 + 1) kt (.int .i64 k)).run P w=_;rw [Instr.checkKey];simp [run_underlying hk]
theorem Zf9 {es : Array MapEntry} {cl : Nat} {w : World} (h : w.heap[r]? = some (.map es cl)) : (getObj r).run P w=.ok (.map es cl) w:=by simp [getObj,Sem.run,h]
theorem Zi9 {L : Operand → Option Value} {x y : Operand} (hm : P.underlying mt=some (.map kt et)) (hk : P.underlying kt=some (.int d)) (hz : ∀ w,(zeroValue et).run P w=.ok (.bool false) w) (h : Zki r ks w) (ex : L x=some (.map (some r))) (ey : L y=some (.int .i64 k)) :
    Q1 P L (.lookup mt x y false) (Ext w) (.bool (decide (k ∈ ks))):=fun ρ hρ w' hw dst ty pos af g=>by
  obtain⟨es,cl,h1,h2⟩:=h;have h1' : w'.heap[r]? = some (.map es cl):=(hw.block r (Array.getElem?_eq_some_iff.1 h1).1).trans h1;obtain⟨o,g1,g2,g3⟩:=Zpg (P:=P) (k:=k) hk h2 w';have hl : (Instr.lookup mt (.map (some r)) (.int .i64 k) false).run P w' = .ok (.bool (decide (k ∈ ks))) w':=by
    unfold Instr.lookup;simp only [Sem.run_bind,run_underlying hm,Result.andThen_ok,Zf9 h1',Sem.run_pure,Zjq hk,g1]
    by_cases hin : k ∈ ks
    · obtain⟨j,rfl,_⟩:=g2 hin;simp [hin]
    · rw [g3 hin];simp [hin,hz]
  simp [execOp,hρ x _ ex,hρ y _ ey,hl]
theorem Zre {ks : List Int} {k : Int} (h : k ∈ ks) : Zlw ks k=ks:=if_pos h
theorem Zja {ks : List Int} {k : Int} (h : k ∉ ks) : Zlw ks k=ks ++ [k]:=if_neg h
theorem Zpw (hm : P.underlying mt=some (.map kt et)) (hk : P.underlying kt=some (.int d)) (h : Zki r ks w) :
    ∃ w',(Instr.mapUpdate mt (.map (some r)) (.int .i64 k) (.bool true)).run P w=.ok () w' ∧ Zki r (Zlw ks k) w' ∧ Chg [r] w w':=by
  obtain⟨es,cl,h1,h2⟩:=h;have hl:=(Array.getElem?_eq_some_iff.1 h1).1;obtain⟨o,g1,g2,g3⟩:=Zpg (P:=P) (k:=k) hk h2 w;have key : ∀ (ob : Obj),∃ w',(setObj r ob).run P w=.ok () w' ∧ w'.heap[r]? = some ob ∧ Chg [r] w w':=fun ob=>by
    refine⟨{ w with heap:=w.heap.setIfInBounds r ob },?_,by simp [hl],⟨rfl,rfl,rfl,by simp,fun k hk hn=>?_⟩⟩
    · simp [setObj,Sem.run,h1]
      try rfl
    · have : r ≠ k:=fun e=>hn (by rw [e];exact List.mem_singleton.2 rfl)
      simp [Array.getElem?_setIfInBounds_ne this]
  by_cases hin : k ∈ ks
  · obtain⟨j,rfl,e,hj,hke⟩:=g2 hin;obtain⟨w',k1,k2,k3⟩:=key (.map (es.modify j fun e=>{ e with key:=.int .i64 k,val:=.bool true }) cl)
    refine⟨w',?_,⟨_,_,k2,?_⟩,k3⟩
    · unfold Instr.mapUpdate;have hj' : es[j]? = some e:=by simpa using hj
      simp only [Sem.run_bind,run_underlying hm,Result.andThen_ok,Zf9 h1,Sem.run_pure,Zjq hk,g1];simp [hj',hke,Instr.keyThatStays,Instr.sameBits,k1]
    · rw [Zre hin];have hj' : es[j]? = some e:=by simpa using hj
      refine⟨?_,fun x hx=>?_⟩
      · rw [← h2.1];apply List.ext_getElem?;intro i;simp only [List.getElem?_map,Array.getElem?_toList,Array.getElem?_modify]
        by_cases hi : j=i
        · subst hi;simp [hj',hke]
        · simp [hi]
      · obtain⟨i,hi,rfl⟩:=List.mem_iff_getElem.1 hx;have hi' : i < es.size:=by simpa using hi
        simp only [Array.getElem_toList,Array.getElem_modify];split
        · rfl
        · exact h2.2 _ (by simp)
  · rw [g3 hin] at g1;obtain⟨w',k1,k2,k3⟩:=key (.map (es.push { key:=.int .i64 k,val:=.bool true,born:=cl }) (cl + 1));refine⟨w',?_,⟨_,_,k2,?_⟩,k3⟩
    · unfold Instr.mapUpdate;simp only [Sem.run_bind,run_underlying hm,Result.andThen_ok,Zf9 h1,Sem.run_pure,Zjq hk,g1];simp [k1]
    · rw [Zja hin];refine⟨by simp [h2.1],fun x hx=>?_⟩
      rcases (by simpa using hx : x ∈ es.toList ∨ x=_) with hx|rfl
      · exact h2.2 x hx
      · rfl
end
section
variable {P : Program} {ops : Array Oper} {Q : Exit → Act → World → Prop} {rest : List Oper} {a : Act} {n : Nat} {l : List (Nat × Option Value)} {w : World}
  {ty : TypeId} {pos : String} {af : Array Edge} {d mt kt et r : Nat} {ks : List Int} {k : Int} {dk : IntKind}
theorem Zjr (H : Has a n l) (hd : Nat.blt d n=true) (h : ∀ r w',Zki r [] w' → Ext w w' → w.heap.size=r → ∀ a',Has a' n ((d,some (.map (some r))) :: l) → wpList P ops Q rest a' w') :
    wpList P ops Q (⟨some d,.makeMap mt none,ty,pos,af,none⟩ :: rest) a w:=
  Zn7 (w':=w.alloc (.map #[] 0)) H (fun ρ hρ=>by
    have : (Instr.makeMap mt none).run P w=.ok (.map (some w.heap.size)) (w.alloc (.map #[] 0)):=rfl;simp [execOp,this]) hd (h _ _ ⟨#[],0,heap_alloc_new w _,rfl,fun e he=>by cases he⟩ (Ext.alloc' _ _) rfl)
theorem Zhd {x y : Operand} (H : Has a n l) (hm : P.underlying mt=some (.map kt et)) (hk : P.underlying kt=some (.int dk)) (hM : Zki r ks w) (ex : lo l x=some (.map (some r))) (ey : lo l y=some (.int .i64 k))
    (h : ∀ w',Zki r (Zlw ks k) w' → Chg [r] w w' → ∀ a',Has a' n l → wpList P ops Q rest a' w') : wpList P ops Q (⟨none,.mapUpdate mt x y (.const (.bool true)),ty,pos,af,none⟩ :: rest) a w:=by
  obtain⟨w',h1,h2,h3⟩:=Zpw (P:=P) (k:=k) hm hk hM;exact Zt9 (w':=w') H (fun ρ hρ=>by
    have e3 : ρ (.const (.bool true))=.bool true:=hρ _ _ rfl;simp [execOp,hρ x _ ex,hρ y _ ey,e3,h1]) rfl (h w' h2 h3)
end
section
variable {fp : Nat → Prop} {w0 w w' : World} {rs : List Rs} {r : Nat} {ks ks' : List Int}
theorem St.map (i : Nat) (h : St fp w0 w rs) (hi : rs[i]? = some (mapR r ks)) : Zki r ks w:=by obtain⟨g,h1,_⟩:=h.get i hi;exact h1
theorem St.newMap (h : St fp w0 w rs) (hb : Zki r ks w') (e : Ext w w') (hl : w.heap.size=r) : St fp w0 w' (mapR r ks :: rs):=h.add (r:=mapR r ks) (g:=fun c=>c=r) e ⟨hb,fun _=>Iff.rfl⟩ fun c hc=>by omega
theorem St.setMap (h : St fp w0 w (mapR r ks :: rs)) (hb : Zki r ks' w') (c : Chg [r] w w') : St fp w0 w' (mapR r ks' :: rs):=
  h.upd fun g hg=>⟨ChgP.of_chg c fun x hx=>(hg.2 x).2 (List.mem_singleton.1 hx),fun x=>x=r,⟨hb,fun _=>Iff.rfl⟩,fun x hx=>.inl ((hg.2 x).2 hx)⟩
end
end Go.Proofs.YtjekfpnpfllaoaaGreatDoor
