/- Part of a claim, shortened by a program from its texts: Core, Step, Ops, Mem, More, Ord, Model, Copy, Read. -/
import Derived.WalkKit
import Derived.OrdersHeld
import Derived.Deep.Quiet
import Derived.KernelRfl
import Derived.Laws.IdiomStrings
import Derived.Lib.ConvBytes
import Derived.Laws.BytesArg
import Derived.Laws.StructEq
import Derived.ProofKit
import Derived.SizedLaws
import Derived.OpenShut
import Derived.ChangeArms
set_option linter.unusedVariables false
set_option linter.unusedSimpArgs false
set_option linter.unusedSectionVars false
namespace Go.Proofs.YtjekfpnpfllaoaaGreatDoor
open Go Go.RowKit
def lk : List (Nat × Option Value) → Nat → Option Value
  | [],_=>none
  | p :: l,t=>bif Nat.beq p.1 t then p.2 else lk l t
def lkc : List (Nat × (Nat × Bool) × Value) → Nat × Bool → Nat → Option Value
  | [],_,_=>none
  | p :: l,g,t=>bif Nat.beq p.1 t then (bif Nat.beq p.2.1.1 g.1 && (p.2.1.2 == g.2) then some p.2.2 else none) else lkc l g t
structure Has (a : Act) (n : Nat) (l : List (Nat × Option Value)) : Prop where
  size : a.tmps.size=n
  defers : a.defers=[]
  val : ∀ t v,lk l t=some v → a.tmps[t]? = some v
structure HasC (ops : Array Oper) (a : Act) (n : Nat) (l : List (Nat × Option Value)) (lc : List (Nat × (Nat × Bool) × Value)) : Prop where
  has : Has a n l
  valc : ∀ g t v,yielded ops a.tmps g.1=some g.2 → lkc lc g t=some v → a.tmps[t]? = some v
def lo (l : List (Nat × Option Value)) : Operand → Option Value
  | .tmp t=>lk l t
  | .const v=>some v
  | .global g=>some (.pointer (some ⟨g,0,none⟩))
  | .func f=>some (.func (.func f) #[] #[])
def loc (l : List (Nat × Option Value)) (lc : List (Nat × (Nat × Bool) × Value)) (g : Nat × Bool) : Operand → Option Value
  | .tmp t=>match lk l t with
    | some v=>some v
    | none=>lkc lc g t
  | .const v=>some v
  | .global g=>some (.pointer (some ⟨g,0,none⟩))
  | .func f=>some (.func (.func f) #[] #[])
theorem Zn1 {a : Act} {t : Nat} {v : Value} (h : a.tmps[t]? = some v) : a.eval (.tmp t)=v:=by
  simp [Act.eval,h]
theorem Has.eval {a : Act} {n : Nat} {l : List (Nat × Option Value)} (h : Has a n l) (x : Operand) (v : Value) (e : lo l x=some v) : a.eval x=v:=by
  cases x with
  | tmp t=>exact Zn1 (h.val t v e)
  | const u=>simpa [lo,Act.eval] using e
  | global g=>simpa [lo,Act.eval] using e
  | func f=>simpa [lo,Act.eval] using e
theorem HasC.eval {ops : Array Oper} {a : Act} {n : Nat} {l : List (Nat × Option Value)} {lc : List (Nat × (Nat × Bool) × Value)} (h : HasC ops a n l lc) (g : Nat × Bool) (hg : yielded ops a.tmps g.1=some g.2) (x : Operand) (v : Value)
    (e : loc l lc g x=some v) : a.eval x=v:=by
  cases x with
  | tmp t=>
    simp only [loc] at e;split at e
    · rename_i u hu
      cases e
      exact Zn1 (h.has.val t _ hu)
    · exact Zn1 (h.valc g t v hg e)
  | const u=>simpa [loc,Act.eval] using e
  | global g=>simpa [loc,Act.eval] using e
  | func f=>simpa [loc,Act.eval] using e
theorem getElem?_put (a : Act) (d : Nat) (v : Value) (hd : d < a.tmps.size) (t : Nat) : (a.put (some d) v).tmps[t]? = if d=t then some v else a.tmps[t]?:=by
  simp only [Act.put]
  by_cases h : d=t
  · subst h;simp [hd]
  · simp [h,Array.getElem?_setIfInBounds_ne h]
theorem Has.put {a : Act} {n : Nat} {l : List (Nat × Option Value)} (h : Has a n l) (d : Nat) (v : Value) (hd : Nat.blt d n=true) : Has (a.put (some d) v) n ((d,some v) :: l) where
  size:=by simp [Act.put,h.size]
  defers:=h.defers
  val:=by
    have hlt : d < a.tmps.size:=by rw [h.size];simpa [Nat.blt_eq] using hd
    intro t u e;rw [getElem?_put a d v hlt];simp only [lk] at e
    by_cases hdt : d=t
    · subst hdt;simp only [Nat.beq_refl,cond_true] at e
      simpa using e
    · have hb : Nat.beq d t=false:=by
        cases hq : Nat.beq d t with
        | false=>rfl
        | true=>exact absurd (Nat.eq_of_beq_eq_true hq) hdt
      rw [hb] at e;rw [if_neg hdt];exact h.val t u e
theorem Has.putX {a : Act} {n : Nat} {l : List (Nat × Option Value)} (h : Has a n l) (d : Nat) (v : Value) (hd : Nat.blt d n=true) : Has (a.put (some d) v) n ((d,none) :: l) where
  size:=by simp [Act.put,h.size]
  defers:=h.defers
  val:=by
    have hlt : d < a.tmps.size:=by rw [h.size];simpa [Nat.blt_eq] using hd
    intro t u e;rw [getElem?_put a d v hlt];simp only [lk] at e
    by_cases hdt : d=t
    · subst hdt;simp only [Nat.beq_refl,cond_true] at e;cases e
    · have hb : Nat.beq d t=false:=by
        cases hq : Nat.beq d t with
        | false=>rfl
        | true=>exact absurd (Nat.eq_of_beq_eq_true hq) hdt
      rw [hb] at e;rw [if_neg hdt];exact h.val t u e
def Sub : List (Nat × Value) → List (Nat × Option Value) → Prop
  | [],_=>True
  | p :: l',l=>lk l p.1=some p.2 ∧ Sub l' l
def ent (l : List (Nat × Value)) : List (Nat × Option Value):=l.map fun p=>(p.1,some p.2)
theorem Zk2 : ∀ (l' : List (Nat × Value)) (l : List (Nat × Option Value)),Sub l' l → ∀ t v,lk (ent l') t=some v → lk l t=some v
  | [],l,_,t,v,e=>by simp [ent,lk] at e
  | p :: l',l,hs,t,v,e=>by
    simp only [ent,List.map_cons,lk] at e;cases hq : Nat.beq p.1 t with
    | true=>
      rw [hq] at e;simp only [cond_true] at e;have:=Nat.eq_of_beq_eq_true hq;rw [← this,← e];exact hs.1
    | false=>
      rw [hq] at e;exact Zk2 l' l hs.2 t v e
theorem Has.sub {a : Act} {n : Nat} {l : List (Nat × Option Value)} (h : Has a n l) (l' : List (Nat × Value)) (hs : Sub l' l) : Has a n (ent l'):=
  ⟨h.size,h.defers,fun t v e=>h.val t v (Zk2 l' l hs t v e)⟩
theorem Has.c {a : Act} {n : Nat} {l : List (Nat × Option Value)} (h : Has a n l) (ops : Array Oper) : HasC ops a n l []:=
  ⟨h,fun g t v _ e=>by simp [lkc] at e⟩
def okc (ops : Array Oper) (d : Nat) : List (Nat × (Nat × Bool) × Value) → Bool
  | []=>true
  | p :: l=>(match (ops[p.2.1.1]?).bind (·.dst) with | some t=>!(Nat.beq t d) | none=>true) && !(Nat.beq p.1 d) && okc ops d l
theorem Zn2 : ∀ (lc : List (Nat × (Nat × Bool) × Value)) (g : Nat × Bool) (t : Nat) (v : Value),lkc lc g t=some v → ∃ p ∈ lc,p.1=t ∧ p.2.1=g ∧ p.2.2=v
  | [],g,t,v,e=>by simp [lkc] at e
  | p :: l,g,t,v,e=>by
    simp only [lkc] at e;cases hq : Nat.beq p.1 t with
    | true=>
      rw [hq] at e;simp only [cond_true] at e;cases hr : (Nat.beq p.2.1.1 g.1 && (p.2.1.2 == g.2)) with
      | true=>
        rw [hr] at e;simp only [cond_true,Option.some.injEq] at e;simp only [Bool.and_eq_true,beq_iff_eq] at hr;exact⟨p,List.mem_cons_self,Nat.eq_of_beq_eq_true hq,Prod.ext (Nat.eq_of_beq_eq_true hr.1) hr.2,e⟩
      | false=>rw [hr] at e;cases e
    | false=>
      rw [hq] at e;obtain⟨q,hm,h⟩:=Zn2 l g t v e;exact⟨q,List.mem_cons_of_mem _ hm,h⟩
theorem Zn3 {ops : Array Oper} {d : Nat} : ∀ {lc : List (Nat × (Nat × Bool) × Value)},okc ops d lc=true → ∀ p ∈ lc,(ops[p.2.1.1]?).bind (·.dst) ≠ some d
  | [],_,p,hp=>by cases hp
  | q :: l,h,p,hp=>by
    simp only [okc,Bool.and_eq_true] at h
    rcases List.mem_cons.1 hp with rfl|hp
    · intro hd;rw [hd] at h;simp at h
    · exact Zn3 h.2 p hp
theorem Zt7 {ops : Array Oper} {d : Nat} : ∀ {lc : List (Nat × (Nat × Bool) × Value)},okc ops d lc=true → ∀ p ∈ lc,p.1 ≠ d
  | [],_,p,hp=>by cases hp
  | q :: l,h,p,hp=>by
    simp only [okc,Bool.and_eq_true] at h
    rcases List.mem_cons.1 hp with rfl|hp
    · intro hd;rw [hd,Nat.beq_refl] at h;simp at h
    · exact Zt7 h.2 p hp
theorem Zg7 {ops : Array Oper} {a : Act} {d : Nat} {v : Value} {j : Nat} (h : (ops[j]?).bind (·.dst) ≠ some d) : yielded ops (a.put (some d) v).tmps j=yielded ops a.tmps j:=by
  unfold yielded;cases ht : (ops[j]?).bind (·.dst) with
  | none=>rfl
  | some t=>
    have hne : d ≠ t:=fun e=>h (by rw [ht,e])
    simp [Act.put,Array.getElem?_setIfInBounds_ne hne]
theorem HasC.put {ops : Array Oper} {a : Act} {n : Nat} {l : List (Nat × Option Value)} {lc : List (Nat × (Nat × Bool) × Value)} (h : HasC ops a n l lc) (d : Nat) (v : Value) (hd : Nat.blt d n=true) (hk : okc ops d lc=true) :
    HasC ops (a.put (some d) v) n ((d,some v) :: l) lc:=by
  refine⟨h.has.put d v hd,fun g t u hg e=>?_⟩;have hlt : d < a.tmps.size:=by rw [h.has.size];simpa [Nat.blt_eq] using hd
  obtain⟨p,hp,h1,h2,h3⟩:=Zn2 lc g t u e;have htd : t ≠ d:=fun e=>Zt7 hk p hp (h1.trans e)
  rw [getElem?_put a d v hlt,if_neg (fun h=>htd h.symm)];rw [Zg7 (by have:=Zn3 hk p hp;rw [h2] at this;exact this)] at hg;exact h.valc g t u hg e
theorem HasC.putg {ops : Array Oper} {a : Act} {n : Nat} {l : List (Nat × Option Value)} {lc : List (Nat × (Nat × Bool) × Value)} (h : HasC ops a n l lc) (g : Nat × Bool) (d : Nat) (v u : Value) (hd : Nat.blt d n=true) (hk : okc ops d lc=true)
    (hg : (match (ops[g.1]?).bind (·.dst) with | some t=>!(Nat.beq t d) | none=>true)=true) (hu : yielded ops a.tmps g.1=some g.2 → u=v) :
    HasC ops (a.put (some d) u) n ((d,none) :: l) ((d,g,v) :: lc):=by
  refine⟨h.has.putX d u hd,fun g' t x hg' e=>?_⟩;have hlt : d < a.tmps.size:=by rw [h.has.size];simpa [Nat.blt_eq] using hd
  have hne : (ops[g.1]?).bind (·.dst) ≠ some d:=by
    intro hq;rw [hq] at hg;simp at hg
  rw [getElem?_put a d u hlt];simp only [lkc] at e;cases hq : Nat.beq d t with
  | true=>
    rw [hq] at e;simp only [cond_true] at e;cases hr : (Nat.beq g.1 g'.1 && (g.2 == g'.2)) with
    | true=>
      rw [hr] at e;simp only [cond_true,Option.some.injEq] at e;simp only [Bool.and_eq_true,beq_iff_eq] at hr;have hgg : g=g':=Prod.ext (Nat.eq_of_beq_eq_true hr.1) hr.2;subst hgg;rw [if_pos (Nat.eq_of_beq_eq_true hq),← e];rw [Zg7 hne] at hg';rw [hu hg']
    | false=>rw [hr] at e;cases e
  | false=>
    rw [hq] at e;have hdt : d ≠ t:=fun e=>by rw [e,Nat.beq_refl] at hq;cases hq
    rw [if_neg hdt];obtain⟨p,hp,h1,h2,h3⟩:=Zn2 lc g' t x e;rw [Zg7 (by have:=Zn3 hk p hp;rw [h2] at this;exact this)] at hg';exact h.valc g' t x hg' e
abbrev Ext (w w' : World) : Prop:=Below w.heap.size w w'
theorem Ext.rfl' {w : World} : Ext w w:=Below.refl _ _
theorem Ext.trans' {a b c : World} (h : Ext a b) (k : Ext b c) : Ext a c:=Below.trans h (k.mono h.size)
theorem Ext.drew' (w : World) : Ext w w.drew:=(Below.refl _ _).drew
theorem Ext.alloc' (w : World) (o : Obj) : Ext w (w.alloc o):=(Below.refl _ _).alloc (Nat.le_refl _) o
def Agr (w w' : World) : Prop:=∀ k,k < w.heap.size → w'.heap[k]? = w.heap[k]?
theorem Ext.agr {w w' : World} (e : Ext w w') : Agr w w':=fun k hk=>e.block k hk
theorem Zhp {w w' : World} {ad : Addr} {v : Value} (h : w.cell? ad=some v) (e : Agr w w') : w'.cell? ad=some v:=by
  have hl:=World.block_lt_of_cell? w ad h;have:=e ad.block hl;unfold World.cell? at h ⊢;rw [this];exact h
def Blk (w : World) (b : Nat) (cs : List Value) (T : TypeId) : Prop:=∃ fr : Nat × Nat,w.heap[b]? = some (.cells cs.toArray T fr) ∧ ∀ j,j < cs.length → fr.1 ≤ j → fr.2 ≤ j
theorem Blk.lt {w : World} {b : Nat} {cs : List Value} {T : TypeId} (h : Blk w b cs T) : b < w.heap.size:=by
  obtain⟨fr,h1,_⟩:=h;exact (Array.getElem?_eq_some_iff.1 h1).1
theorem Blk.ext {w w' : World} {b : Nat} {cs : List Value} {T : TypeId} (h : Blk w b cs T) (e : Ext w w') : Blk w' b cs T:=by
  have hl:=h.lt;obtain⟨fr,h1,h2⟩:=h;exact⟨fr,(e.block b hl).trans h1,h2⟩
theorem Blk.cell {w : World} {b : Nat} {cs : List Value} {T : TypeId} (h : Blk w b cs T) (j : Nat) : w.cell? ⟨b,j,none⟩=cs[j]?:=by
  obtain⟨fr,h1,_⟩:=h;rw [cell_of_row w b j _ T fr h1];simp
theorem Blk.frozen {w : World} {b : Nat} {cs : List Value} {T : TypeId} (h : Blk w b cs T) {j : Nat} (hj : j < cs.length) : w.frozen? ⟨b,j,none⟩=false:=by
  obtain⟨⟨lo,hi⟩,h1,h2⟩:=h;have:=h2 j hj;simp only [World.frozen?,h1,Bool.and_eq_false_iff,decide_eq_false_iff_not];simp only at this
  by_cases hlo : lo ≤ j
  · right;have:=this hlo;omega
  · left;exact hlo
theorem Blk.new (w : World) (cs : List Value) (T : TypeId) : Blk (w.alloc (.cells cs.toArray T)) w.heap.size cs T:=⟨(0,0),heap_alloc_new w _,fun j _ _=>Nat.zero_le j⟩
theorem Blk.set {w : World} {b : Nat} {cs : List Value} {T : TypeId} (h : Blk w b cs T) (i : Nat) (v : Value) : Blk (w.setCell ⟨b,i,none⟩ v) b (cs.set i v) T:=by
  obtain⟨fr,h1,h2⟩:=h;refine⟨fr,?_,by simpa using h2⟩;rw [setCell_eq_setRow w b i cs.toArray T fr v h1,setRow_heap w b cs.toArray _ T fr h1];simp
theorem Yx (b j : Nat) : (⟨b,0,none⟩ : Addr).add j=⟨b,j,none⟩:=by unfold Addr.add;split <;> simp_all
theorem Tj (b o j : Nat) : (⟨b,o,none⟩ : Addr).add j=⟨b,o + j,none⟩:=by unfold Addr.add;split <;> simp_all
theorem Zdg (a : Addr) (m n : Nat) : (a.add m).add n=a.add (m + n):=by
  unfold Addr.add
  by_cases hm : m=0 <;> by_cases hn : n=0 <;> simp [hm,hn,Nat.add_assoc]
theorem Zqn (a : Addr) (m : Nat) : (a.add m).block=a.block:=by unfold Addr.add;split <;> rfl
def Ty (P : Program) (t : TypeId) : Option Bool:=
  match P.underlying t with
  | some (.struct _) | some (.array _ _)=>some true
  | some _=>some false
  | none=>none
def Xb (P : Program) (t : TypeId) : Option Nat:=(P.info? t).map (·.size)
section
variable {P : Program}
theorem Zf5 {t : TypeId} {b : Bool} (h : Ty P t=some b) (w : World) : (isAgg t).run P w=.ok b w:=by
  unfold Ty at h;cases hu : P.underlying t with
  | none=>simp [hu] at h
  | some d=>
    simp only [hu] at h;unfold isAgg;rw [Sem.run_bind,run_underlying hu w];cases d <;> simp at h <;> subst h <;> simp
theorem Hd {t : TypeId} {n : Nat} (h : Xb P t=some n) (w : World) : (sizeOf t).run P w=.ok n w:=by
  unfold Xb at h;cases hi : P.info? t with
  | none=>simp [hi] at h
  | some i=>
    simp [hi] at h;simp [sizeOf,typeInfo,hi,h]
def Ld (P : Program) (t : TypeId) (w : World) (ad : Addr) (v : Value) : Prop:=(loadVar t ad).run P w=.ok v w
def LdC (P : Program) (t : TypeId) (C : World → Prop) (ad : Addr) (v : Value) : Prop:=∀ w',C w' → Ld P t w' ad v
abbrev LdX (P : Program) (t : TypeId) (w : World) (ad : Addr) (v : Value) : Prop:=LdC P t (Ext w) ad v
theorem Ld.one {t : TypeId} {w : World} {ad : Addr} {v : Value} (ht : Ty P t=some false) (hc : w.cell? ad=some v) : Ld P t w ad v:=by
  simp [Ld,loadVar,Zf5 ht,hc]
theorem Ld.agg {t : TypeId} {w : World} {ad : Addr} {cs : List Value} (ht : Ty P t=some true) (hs : Xb P t=some cs.length) (hc : ∀ j v,cs[j]? = some v → w.cell? (ad.add j)=some v) : Ld P t w ad (.agg cs.toArray):=by
  have hl:=run_loadCells_list (P:=P) w ad cs hc;simp [Ld,loadVar,Zf5 ht,Hd hs,hl]
theorem Zhq {w w' : World} {ad : Addr} {v : Value} (h : w.cell? ad=some v) (e : Ext w w') : w'.cell? ad=some v:=(e.cell (World.block_lt_of_cell? w ad h)).trans h
theorem LdX.one {t : TypeId} {w : World} {ad : Addr} {v : Value} (ht : Ty P t=some false) (hc : w.cell? ad=some v) : LdX P t w ad v:=fun w' e=>Ld.one ht (Zhq hc e)
theorem LdX.agg {t : TypeId} {w : World} {ad : Addr} {cs : List Value} (ht : Ty P t=some true) (hs : Xb P t=some cs.length) (hc : ∀ j v,cs[j]? = some v → w.cell? (ad.add j)=some v) : LdX P t w ad (.agg cs.toArray):=
  fun w' e=>Ld.agg ht hs fun j v hj=>Zhq (hc j v hj) e
theorem LdX.ext {t : TypeId} {w w' : World} {ad : Addr} {v : Value} (h : LdX P t w ad v) (e : Ext w w') : LdX P t w' ad v:=fun w'' e'=>h w'' (e.trans' e')
theorem Blk.ld {t : TypeId} {w : World} {b : Nat} {cs : List Value} {T : TypeId} (h : Blk w b cs T) {j : Nat} {v : Value} (ht : Ty P t=some false) (hj : cs[j]? = some v) : LdX P t w ⟨b,j,none⟩ v:=
  LdX.one ht ((h.cell j).trans hj)
theorem Blk.ldAll {t : TypeId} {w : World} {b : Nat} {cs : List Value} {T : TypeId} (h : Blk w b cs T) (ht : Ty P t=some true) (hs : Xb P t=some cs.length) : LdX P t w ⟨b,0,none⟩ (.agg cs.toArray):=
  LdX.agg ht hs fun j v hj=>by rw [Yx];exact (h.cell j).trans hj
theorem Blk.ldPart {t : TypeId} {w : World} {b : Nat} {cs : List Value} {T : TypeId} (h : Blk w b cs T) (j n : Nat) (ht : Ty P t=some true) (hs : Xb P t=some n) (hn : j + n ≤ cs.length) : LdX P t w ⟨b,j,none⟩ (.agg ((cs.drop j).take n).toArray):=
  LdX.agg ht (by rw [hs];simp;omega) fun i v hi=>by
    rw [Tj,h.cell];have hi':=hi;rw [List.getElem?_take] at hi';split at hi'
    · simpa using hi'
    · cases hi'
def Zqo (P : Program) (ρ : Operand → Value) (op : Op) (C : World → Prop) (v : Value) : Prop:=
  ∀ w',C w' → ∀ dst ty pos af g,(execOp ρ ⟨dst,op,ty,pos,af,g⟩).run P w' = .ok (.value v) w'
def Q1 (P : Program) (L : Operand → Option Value) (op : Op) (C : World → Prop) (v : Value) : Prop:=
  ∀ ρ : Operand → Value,(∀ x u,L x=some u → ρ x=u) → Zqo P ρ op C v
variable {L : Operand → Option Value} {C : World → Prop}
theorem Zc {x : Operand} {v : Value} (e : L x=some v) : Q1 P L (.move x) C v:=fun ρ h w' _ dst ty pos af g=>by simp [execOp,h x v e]
theorem Zb {x : Operand} {v : Value} (e : L x=some v) : Q1 P L (.assign x) C v:=fun ρ h w' _ dst ty pos af g=>by simp [execOp,h x v e]
def Zcy (P : Program) (s k : Nat) : Option Nat:=
  match P.underlying s with
  | some (.struct fs)=>match fs[k]? with
    | some f=>match P.info? f.type with
      | some i=>if i.size=0 then none else some f.offset
      | none=>none
    | none=>none
  | _=>none
theorem Zn4 {s k off : Nat} (h : Zcy P s k=some off) (ad : Addr) (w : World) : (Instr.fieldAt s (.pointer (some ad)) k).run P w=.ok (.pointer (some (ad.add off))) w:=by
  unfold Zcy at h;cases hu : P.underlying s with
  | none=>simp [hu] at h
  | some d=>
    cases d with
    | struct fs=>
      simp only [hu] at h;cases hf : fs[k]? with
      | none=>simp [hf] at h
      | some f=>
        simp only [hf] at h;cases hi : P.info? f.type with
        | none=>simp [hi] at h
        | some i=>
          simp only [hi] at h
          by_cases hz : i.size=0
          · simp [hz] at h
          · rw [if_neg hz] at h;cases h
            simp [Instr.fieldAt,run_underlying hu,hf,Instr.sureAddr,fieldPlace,sizeOf,typeInfo,hi,hz]
    | _=>simp [hu] at h
theorem Zo {x : Operand} {s k off : Nat} {ad : Addr} (e : L x=some (.pointer (some ad))) (hf : Zcy P s k=some off) : Q1 P L (.fieldAddr s x k) C (.pointer (some (ad.add off))):=
  fun ρ h w' _ dst ty pos af g=>by simp [execOp,h x _ e,Zn4 hf]
theorem Za {x : Operand} {s k off b : Nat} (e : L x=some (.pointer (some ⟨b,0,none⟩))) (hf : Zcy P s k=some off) : Q1 P L (.fieldAddr s x k) C (.pointer (some ⟨b,off,none⟩)):=by
  have:=Zo (P:=P) (C:=C) e hf
  rwa [Yx] at this
theorem Ze {x : Operand} {t : TypeId} {ad : Addr} {v : Value} (e : L x=some (.pointer (some ad))) (hl : LdC P t C ad v) : Q1 P L (.load t x) C v:=
  fun ρ h w' hw dst ty pos af g=>by
    have:=hl w' hw;unfold Ld at this;simp [execOp,h x _ e,Instr.loadAt,Instr.sureAddr,this]
theorem Zk3 {x : Operand} {ad : Addr} (e : L x=some (.pointer (some ad))) : Q1 P L (.nilCheck x) C (.pointer (some ad)):=
  fun ρ h w' _ dst ty pos af g=>by simp [execOp,h x _ e]
theorem Gw {x : Operand} {t : TypeId} {b : Bool} (e : L x=some (.bool b)) : Q1 P L (.unOp .not t x) C (.bool (!b)):=
  fun ρ h w' _ dst ty pos af g=>by simp [execOp,h x _ e,Op.unary]
def getV : List Value → Nat → Option Value
  | [],_=>none
  | v :: _,0=>some v
  | _ :: vs,i + 1=>getV vs i
theorem Zqp : ∀ (vs : List Value) (i : Nat),getV vs i=vs[i]?
  | [],_=>rfl
  | v :: _,0=>rfl
  | _ :: vs,i + 1=>Zqp vs i
theorem Qb {x : Operand} {vs : List Value} {i : Nat} {v : Value} (e : L x=some (.tuple vs.toArray)) (hi : getV vs i=some v) : Q1 P L (.extract x i) C v:=
  fun ρ h w' _ dst ty pos af g=>by
    rw [Zqp] at hi;simp [execOp,h x _ e,Instr.extract,hi]
theorem Tz (op : BinOp) (t : TypeId) (x y : Operand) (k k' : IntKind) (a b : Int) (w : World) : (eqGuard op t x y (.int k a) (.int k' b)).run P w=.ok () w:=by
  cases op <;> simp [eqGuard]
section ints
variable {x y : Operand} {t t' : TypeId} {k : IntKind} {a b : Int} (ex : L x=some (.int k a)) (ey : L y=some (.int k b))
include ex ey
theorem q_eql : Q1 P L (.binOp .eql t x y t') C (.bool (a == b)):=fun ρ h w' _ dst ty pos af g=>by simp [execOp,h x _ ex,h y _ ey,Tz,binOp,Op.intCmp]
theorem Zst : Q1 P L (.binOp .neq t x y t') C (.bool (a != b)):=fun ρ h w' _ dst ty pos af g=>by simp [execOp,h x _ ex,h y _ ey,Tz,binOp,Op.intCmp]
theorem Yu : Q1 P L (.binOp .lss t x y t') C (.bool (decide (a < b))):=fun ρ h w' _ dst ty pos af g=>by simp [execOp,h x _ ex,h y _ ey,Tz,binOp,Op.intCmp]
theorem Zn5 : Q1 P L (.binOp .leq t x y t') C (.bool (decide (a ≤ b))):=fun ρ h w' _ dst ty pos af g=>by simp [execOp,h x _ ex,h y _ ey,Tz,binOp,Op.intCmp]
theorem Tv : Q1 P L (.binOp .gtr t x y t') C (.bool (decide (b < a))):=fun ρ h w' _ dst ty pos af g=>by simp [execOp,h x _ ex,h y _ ey,Tz,binOp,Op.intCmp]
theorem Zen : Q1 P L (.binOp .geq t x y t') C (.bool (decide (b ≤ a))):=fun ρ h w' _ dst ty pos af g=>by simp [execOp,h x _ ex,h y _ ey,Tz,binOp,Op.intCmp]
theorem Yh : Q1 P L (.binOp .add t x y t') C (.int k (k.wrap (a + b))):=fun ρ h w' _ dst ty pos af g=>by simp [execOp,h x _ ex,h y _ ey,Tz,binOp,Op.intArith]
theorem Zt8 : Q1 P L (.binOp .sub t x y t') C (.int k (k.wrap (a - b))):=fun ρ h w' _ dst ty pos af g=>by simp [execOp,h x _ ex,h y _ ey,Tz,binOp,Op.intArith]
theorem Zip : Q1 P L (.binOp .mul t x y t') C (.int k (k.wrap (a * b))):=fun ρ h w' _ dst ty pos af g=>by simp [execOp,h x _ ex,h y _ ey,Tz,binOp,Op.intArith]
theorem Zo5 (hb : b ≠ 0) : Q1 P L (.binOp .rem t x y t') C (.int k (a.tmod b)):=fun ρ h w' _ dst ty pos af g=>by simp [execOp,h x _ ex,h y _ ey,Tz,binOp,Op.intDiv,hb]
end ints
theorem Xg {x : Operand} {s k off b o : Nat} (e : L x=some (.pointer (some ⟨b,o,none⟩))) (hf : Zcy P s k=some off) : Q1 P L (.fieldAddr s x k) C (.pointer (some ⟨b,o + off,none⟩)):=by
  have:=Zo (P:=P) (C:=C) e hf
  rwa [Tj] at this
def I64 (z : Int) : Prop:=-9223372036854775808 ≤ z ∧ z ≤ 9223372036854775807
theorem Jw {z : Int} (h : I64 z) : IntKind.i64.wrap z=z:=by
  obtain⟨h1,h2⟩:=h;exact IntWalk.i64_in z (by omega)
end
end Go.Proofs.YtjekfpnpfllaoaaGreatDoor
set_option linter.unusedVariables false
set_option linter.unusedSimpArgs false
set_option linter.unusedSectionVars false
namespace Go.Proofs.YtjekfpnpfllaoaaGreatDoor
open Go Go.RowKit
section
variable {P : Program} {ops : Array Oper} {Q : Exit → Act → World → Prop} {rest : List Oper} {a : Act} {n : Nat} {l : List (Nat × Option Value)} {lc : List (Nat × (Nat × Bool) × Value)} {w : World}
  {op : Op} {ty : TypeId} {pos : String} {af : Array Edge} {d : Nat} {v : Value}
theorem n_q (H : Has a n l) (q : Q1 P (lo l) op (Ext w) v) (hd : Nat.blt d n=true) (h : ∀ a',Has a' n ((d,some v) :: l) → wpList P ops Q rest a' w) :
    wpList P ops Q (⟨some d,op,ty,pos,af,none⟩ :: rest) a w:=
  wpList_plain rfl fun K hK=>by
    unfold Oper.wp;rw [q a.eval H.eval w Ext.rfl' (some d) ty pos af none];exact hK _ _ (h _ (H.put d v hd))
theorem n_c (H : Has a n l) (h : HasC ops a n l [] → wpList P ops Q rest a w) : wpList P ops Q rest a w:=h (H.c ops)
theorem Ti (H : HasC ops a n l lc) (q : Q1 P (lo l) op (Ext w) v) (hd : Nat.blt d n=true) (hk : okc ops d lc=true) (h : ∀ a',HasC ops a' n ((d,some v) :: l) lc → wpList P ops Q rest a' w) :
    wpList P ops Q (⟨some d,op,ty,pos,af,none⟩ :: rest) a w:=
  wpList_plain rfl fun K hK=>by
    unfold Oper.wp;rw [q a.eval H.has.eval w Ext.rfl' (some d) ty pos af none];exact hK _ _ (h _ (H.put d v hd hk))
theorem He {ops : Array Oper} {tm : Array Value} {g : Nat × Bool} {o : Oper} (ho : o.guard=some g) : Region.wanted o (yielded ops tm)=true ↔ yielded ops tm g.1=some g.2:=by
  obtain⟨j,b⟩:=g;simp [Region.wanted,ho]
theorem Zem {g : Nat × Bool} (H : HasC ops a n l lc) (q : Q1 P (loc l lc g) op (Ext w) v) (hd : Nat.blt d n=true) (hk : okc ops d lc=true)
    (hg : (match (ops[g.1]?).bind (·.dst) with | some t=>!(Nat.beq t d) | none=>true)=true)
    (h : ∀ a',HasC ops a' n ((d,none) :: l) ((d,g,v) :: lc) → wpList P ops Q rest a' w) :
    wpList P ops Q (⟨some d,op,ty,pos,af,some g⟩ :: rest) a w:=by
  refine wpList_step fun K hK=>?_
  by_cases hw : Region.wanted ⟨some d,op,ty,pos,af,some g⟩ (yielded ops a.tmps)=true
  · rw [if_pos hw];have hy:=(He (o:=⟨some d,op,ty,pos,af,some g⟩) rfl).1 hw;unfold Oper.wp;rw [q a.eval (H.eval g hy) w Ext.rfl' (some d) ty pos af (some g)];exact hK _ _ (h _ (H.putg g d v v hd hk hg fun _=>rfl))
  · rw [if_neg hw];have hy:=fun e=>hw ((He (o:=⟨some d,op,ty,pos,af,some g⟩) rfl).2 e)
    exact hK _ _ (h _ (H.putg g d v undef hd hk hg fun e=>absurd e hy))
theorem Zbp {j t : Nat} {b : Bool} (H : Has a n l) (hj : (ops[j]?).bind (·.dst)=some t) (ht : lk l t=some (.bool b)) : yielded ops a.tmps j=some b:=by
  simp [yielded,hj,H.val t _ ht]
theorem Zn6 {j t : Nat} {b : Bool} {g : Nat × Bool} (H : HasC ops a n l lc) (hy : yielded ops a.tmps g.1=some g.2) (hj : (ops[j]?).bind (·.dst)=some t) (ht : loc l lc g (.tmp t)=some (.bool b)) : yielded ops a.tmps j=some b:=by
  have : a.tmps[t]? = some (.bool b):=by
    simp only [loc] at ht;split at ht
    · rename_i u hu
      cases ht
      exact H.has.val t _ hu
    · exact H.valc g t _ hy ht
  simp [yielded,hj,this]
theorem Zib {v : Value} : a.eval (.const v)=v:=rfl
theorem Zsu {j t r : Nat} {b u : Bool} (H : HasC ops a n l lc) (hj : (ops[j]?).bind (·.dst)=some t) (ht : lk l t=some (.bool b)) (hr : loc l lc (j,true) (.tmp r)=some (.bool u)) :
    Zqo P a.eval (.pick (.tmp t) (.tmp r) (.const (.bool false))) (Ext w) (.bool (b && u)):=by
  intro w' _ dst ty pos af g;have e1:=H.has.eval (.tmp t) _ ht;cases b with
  | false=>simp [execOp,e1,asBool,Zib]
  | true=>
    have e2:=H.eval (j,true) (Zbp H.has hj ht) (.tmp r) _ hr;simp [execOp,e1,e2,asBool]
theorem Zuo {j t r : Nat} {b u : Bool} (H : HasC ops a n l lc) (hj : (ops[j]?).bind (·.dst)=some t) (ht : lk l t=some (.bool b)) (hr : loc l lc (j,false) (.tmp r)=some (.bool u)) :
    Zqo P a.eval (.pick (.tmp t) (.const (.bool true)) (.tmp r)) (Ext w) (.bool (b || u)):=by
  intro w' _ dst ty pos af g;have e1:=H.has.eval (.tmp t) _ ht;cases b with
  | true=>simp [execOp,e1,asBool,Zib]
  | false=>
    have e2:=H.eval (j,false) (Zbp H.has hj ht) (.tmp r) _ hr;simp [execOp,e1,e2,asBool]
theorem Zo6 {j t r : Nat} {b u : Bool} (H : HasC ops a n l lc) (hj : (ops[j]?).bind (·.dst)=some t) (ht : lk l t=some (.bool b)) (hr : loc l lc (j,true) (.tmp r)=some (.bool u)) (hd : Nat.blt d n=true) (hk : okc ops d lc=true)
    (h : ∀ a',HasC ops a' n ((d,some (.bool (b && u))) :: l) lc → wpList P ops Q rest a' w) :
    wpList P ops Q (⟨some d,.pick (.tmp t) (.tmp r) (.const (.bool false)),ty,pos,af,none⟩ :: rest) a w:=
  wpList_plain rfl fun K hK=>by
    unfold Oper.wp;rw [Zsu (P:=P) (w:=w) H hj ht hr w Ext.rfl' (some d) ty pos af none];exact hK _ _ (h _ (H.put d _ hd hk))
theorem Zlm {j t r : Nat} {b u : Bool} (H : HasC ops a n l lc) (hj : (ops[j]?).bind (·.dst)=some t) (ht : lk l t=some (.bool b)) (hr : loc l lc (j,false) (.tmp r)=some (.bool u)) (hd : Nat.blt d n=true) (hk : okc ops d lc=true)
    (h : ∀ a',HasC ops a' n ((d,some (.bool (b || u))) :: l) lc → wpList P ops Q rest a' w) :
    wpList P ops Q (⟨some d,.pick (.tmp t) (.const (.bool true)) (.tmp r),ty,pos,af,none⟩ :: rest) a w:=
  wpList_plain rfl fun K hK=>by
    unfold Oper.wp;rw [Zuo (P:=P) (w:=w) H hj ht hr w Ext.rfl' (some d) ty pos af none];exact hK _ _ (h _ (H.put d _ hd hk))
theorem Zln {j t r : Nat} {b u : Bool} {g : Nat × Bool} (H : HasC ops a n l lc) (hj : (ops[j]?).bind (·.dst)=some t) (ht : loc l lc g (.tmp t)=some (.bool b)) (hr : loc l lc (j,true) (.tmp r)=some (.bool u)) (hd : Nat.blt d n=true) (hk : okc ops d lc=true)
    (hg : (match (ops[g.1]?).bind (·.dst) with | some t=>!(Nat.beq t d) | none=>true)=true)
    (h : ∀ a',HasC ops a' n ((d,none) :: l) ((d,g,.bool (b && u)) :: lc) → wpList P ops Q rest a' w) :
    wpList P ops Q (⟨some d,.pick (.tmp t) (.tmp r) (.const (.bool false)),ty,pos,af,some g⟩ :: rest) a w:=by
  refine wpList_step fun K hK=>?_
  by_cases hw : Region.wanted ⟨some d,.pick (.tmp t) (.tmp r) (.const (.bool false)),ty,pos,af,some g⟩ (yielded ops a.tmps)=true
  · rw [if_pos hw];have hy:=(He (o:=⟨some d,.pick (.tmp t) (.tmp r) (.const (.bool false)),ty,pos,af,some g⟩) rfl).1 hw;have e1:=H.eval g hy (.tmp t) _ ht;have hyj:=Zn6 H hy hj ht;have hrun : (execOp a.eval ⟨some d,.pick (.tmp t) (.tmp r) (.const (.bool false)),ty,pos,af,some g⟩).run P w=.ok (.value (.bool (b && u))) w:=by
      cases b with
      | false=>simp [execOp,e1,asBool,Zib]
      | true=>simp [execOp,e1,H.eval (j,true) hyj (.tmp r) _ hr,asBool]
    unfold Oper.wp;rw [hrun];exact hK _ _ (h _ (H.putg g d _ _ hd hk hg fun _=>rfl))
  · rw [if_neg hw];have hy:=fun e=>hw ((He (o:=⟨some d,.pick (.tmp t) (.tmp r) (.const (.bool false)),ty,pos,af,some g⟩) rfl).2 e)
    exact hK _ _ (h _ (H.putg g d _ undef hd hk hg fun e=>absurd e hy))
theorem Qq (h : Q .normal a w) : wpList P ops Q [] a w:=h
theorem Zn7 {w' : World} (H : Has a n l) (hr : ∀ ρ : Operand → Value,(∀ x u,lo l x=some u → ρ x=u) → (execOp ρ ⟨some d,op,ty,pos,af,none⟩).run P w=.ok (.value v) w') (hd : Nat.blt d n=true)
    (h : ∀ a',Has a' n ((d,some v) :: l) → wpList P ops Q rest a' w') : wpList P ops Q (⟨some d,op,ty,pos,af,none⟩ :: rest) a w:=
  wpList_plain rfl fun K hK=>by
    unfold Oper.wp;rw [hr a.eval H.eval];exact hK _ _ (h _ (H.put d v hd))
theorem Zt9 {w' : World} {dst : Option Nat} (H : Has a n l) (hr : ∀ ρ : Operand → Value,(∀ x u,lo l x=some u → ρ x=u) → (execOp ρ ⟨dst,op,ty,pos,af,none⟩).run P w=.ok .skip w') (hd : dst=none)
    (h : ∀ a',Has a' n l → wpList P ops Q rest a' w') : wpList P ops Q (⟨dst,op,ty,pos,af,none⟩ :: rest) a w:=
  wpList_plain rfl fun K hK=>by
    subst hd;unfold Oper.wp;rw [hr a.eval H.eval];exact hK _ _ (h _ H)
theorem Qk {x : Operand} {T : TypeId} {u : Value} {cs : List Value} (H : Has a n l) (e : lo l x=some u) (hc : u.cells=cs.toArray) (hd : Nat.blt d n=true)
    (h : ∀ b w',Blk w' b cs T → Ext w w' → w.heap.size=b → ∀ a',Has a' n ((d,some (.pointer (some ⟨b,0,none⟩))) :: l) → wpList P ops Q rest a' w') :
    wpList P ops Q (⟨some d,.box T x,ty,pos,af,none⟩ :: rest) a w:=
  Zn7 (w':=w.alloc (.cells cs.toArray T)) H (fun ρ hρ=>by simp [execOp,hρ x _ e,Instr.box,newVar,newRow,hc]) hd
    (h w.heap.size _ (Blk.new w cs T) (Ext.alloc' _ _) rfl)
def Tw (P : Program) (t : TypeId) : Option (List Value):=((P.info? t).bind (·.zero)).map fun z=>z.cells.toList
theorem Qo {T : TypeId} {cs : List Value} (H : Has a n l) (hz : Tw P T=some cs) (hd : Nat.blt d n=true)
    (h : ∀ b w',Blk w' b cs T → Ext w w' → w.heap.size=b → ∀ a',Has a' n ((d,some (.pointer (some ⟨b,0,none⟩))) :: l) → wpList P ops Q rest a' w') :
    wpList P ops Q (⟨some d,.alloc T,ty,pos,af,none⟩ :: rest) a w:=by
  unfold Tw at hz;cases hi : P.info? T with
  | none=>simp [hi] at hz
  | some i=>
    cases hzz : i.zero with
    | none=>simp [hi,hzz] at hz
    | some z=>
      simp [hi,hzz] at hz;have hcs : z.cells=cs.toArray:=by rw [← hz]
      exact Zn7 (w':=w.alloc (.cells cs.toArray T)) H (fun ρ hρ=>by simp [execOp,Instr.alloc,zeroValue,typeInfo,hi,hzz,newVar,newRow,hcs]) hd
        (h w.heap.size _ (Blk.new w cs T) (Ext.alloc' _ _) rfl)
structure Chg (S : List Nat) (w w' : World) : Prop where
  os : w'.os=w.os
  tape : w'.tape=w.tape
  output : w'.output=w.output
  size : w.heap.size ≤ w'.heap.size
  block : ∀ k,k < w.heap.size → k ∉ S → w'.heap[k]? = w.heap[k]?
theorem Chg.refl (S : List Nat) (w : World) : Chg S w w:=⟨rfl,rfl,rfl,Nat.le_refl _,fun _ _ _=>rfl⟩
theorem Chg.trans {S : List Nat} {w1 w2 w3 : World} (h : Chg S w1 w2) (k : Chg S w2 w3) : Chg S w1 w3:=
  ⟨k.os.trans h.os,k.tape.trans h.tape,k.output.trans h.output,Nat.le_trans h.size k.size,fun i hi hn=>(k.block i (Nat.lt_of_lt_of_le hi h.size) hn).trans (h.block i hi hn)⟩
theorem Chg.trans2 {S S2 : List Nat} {w1 w2 w3 : World} (h : Chg S w1 w2) (k : Chg S2 w2 w3) (hs : ∀ b ∈ S2,b < w1.heap.size → b ∈ S) : Chg S w1 w3:=
  ⟨k.os.trans h.os,k.tape.trans h.tape,k.output.trans h.output,Nat.le_trans h.size k.size,fun i hi hn=>(k.block i (Nat.lt_of_lt_of_le hi h.size) fun hm=>hn (hs i hm hi)).trans (h.block i hi hn)⟩
theorem Chg.of_ext {S : List Nat} {w w' : World} (e : Ext w w') : Chg S w w':=⟨e.os,e.tape,e.output,e.size,fun k hk _=>e.block k hk⟩
theorem Chg.mono {S S' : List Nat} {w w' : World} (h : Chg S w w') (hs : ∀ k ∈ S,k < w.heap.size → k ∈ S') : Chg S' w w':=
  ⟨h.os,h.tape,h.output,h.size,fun k hk hn=>h.block k hk fun hm=>hn (hs k hm hk)⟩
theorem Chg.blk {S : List Nat} {w w' : World} {b : Nat} {cs : List Value} {T : TypeId} (h : Chg S w w') (k : Blk w b cs T) (hn : b ∉ S) : Blk w' b cs T:=by
  have hl:=k.lt;obtain⟨fr,h1,h2⟩:=k;exact⟨fr,(h.block b hl hn).trans h1,h2⟩
theorem Chg.below {S : List Nat} {B : Nat} {w0 w w' : World} (h : Below B w0 w) (k : Chg S w w') (hB : B ≤ w0.heap.size) (hs : ∀ b ∈ S,B ≤ b) : Below B w0 w':=
  ⟨k.os.trans h.os,k.tape.trans h.tape,k.output.trans h.output,Nat.le_trans h.size k.size,fun i hi=>(k.block i (Nat.lt_of_lt_of_le hi (Nat.le_trans hB h.size)) fun hm=>by have:=hs i hm;omega).trans (h.block i hi)⟩
theorem Zbs (P : Program) (w : World) (b : Nat) (T : TypeId) : ∀ (vs : List Value) (i o : Nat) (cs : List Value),Blk w b cs T → o + i + vs.length ≤ cs.length → (∀ u ∈ vs,u.oneCell' = true) →
    ∃ w',(storeCells ⟨b,o,none⟩ vs i).run P w=.ok () w' ∧ Blk w' b (cs.take (o + i) ++ vs ++ cs.drop (o + i + vs.length)) T ∧ Chg [b] w w' ∧ w'.heap.size=w.heap.size
  | [],i,o,cs,hb,hl,_=>⟨w,by simp [storeCells],by simpa using hb,Chg.refl _ _,rfl⟩
  | v :: vs,i,o,cs,hb,hl,h1=>by
    simp only [List.length_cons] at hl;have hc : w.cell? ((⟨b,o,none⟩ : Addr).add i)=some cs[o + i]:=by rw [Tj,hb.cell,List.getElem?_eq_getElem (by omega)]
    have hf : w.frozen? ((⟨b,o,none⟩ : Addr).add i)=false:=by rw [Tj];exact hb.frozen (by omega)
    have hst:=run_store P w ((⟨b,o,none⟩ : Addr).add i) v .plain (h1 v List.mem_cons_self);rw [hc,hf] at hst;simp only [Bool.false_eq_true,if_false] at hst;have hb' : Blk (w.setCell ((⟨b,o,none⟩ : Addr).add i) v) b (cs.set (o + i) v) T:=by
      rw [Tj];exact hb.set (o + i) v
    obtain⟨w',hr,hb2,hch,hsz⟩:=Zbs P (w.setCell ((⟨b,o,none⟩ : Addr).add i) v) b T vs (i + 1) o (cs.set (o + i) v) hb' (by simp;omega) (fun u hu=>h1 u (List.mem_cons_of_mem _ hu));refine⟨w',by simp [storeCells,hst,hr],?_,?_,by rw [hsz];simp⟩
    · have e : cs.take (o + i) ++ (v :: vs) ++ cs.drop (o + i + (v :: vs).length)=(cs.set (o + i) v).take (o + (i + 1)) ++ vs ++ (cs.set (o + i) v).drop (o + (i + 1) + vs.length):=by
        apply List.ext_getElem?;intro j;simp only [List.length_cons,List.getElem?_append,List.length_take,List.length_append,List.length_set,List.getElem?_take,List.getElem?_drop,List.getElem?_set]
        rcases Nat.lt_trichotomy j (o + i) with h|h|h
        · have a1 : j < min (o + i) cs.length:=by omega
          have a2 : j < min (o + i) cs.length + (vs.length + 1):=by omega
          have a3 : j < min (o + (i + 1)) cs.length:=by omega
          have a4 : j < min (o + (i + 1)) cs.length + vs.length:=by omega
          simp [a1,a2,a3,a4,h,show j < o + (i + 1) by omega,show o + i ≠ j by omega]
        · subst h;have a1 : ¬ (o + i) < min (o + i) cs.length:=by omega
          have a2 : (o + i) < min (o + i) cs.length + (vs.length + 1):=by omega
          have a3 : (o + i) < min (o + (i + 1)) cs.length:=by omega
          have a4 : (o + i) < min (o + (i + 1)) cs.length + vs.length:=by omega
          have a5 : (o + i) - min (o + i) cs.length=0:=by omega
          simp [a1,a2,a3,a4,a5,show o + i < o + (i + 1) by omega,show o + i < cs.length by omega]
        · have a1 : ¬ j < min (o + i) cs.length:=by omega
          have a3 : ¬ j < min (o + (i + 1)) cs.length:=by omega
          by_cases hj : j < o + i + 1 + vs.length
          · have a2 : j < min (o + i) cs.length + (vs.length + 1):=by omega
            have a4 : j < min (o + (i + 1)) cs.length + vs.length:=by omega
            obtain⟨m,hm⟩ : ∃ m,j - min (o + i) cs.length=m + 1:=⟨j - min (o + i) cs.length - 1,by omega⟩;have hm' : j - min (o + (i + 1)) cs.length=m:=by omega
            simp [a1,a2,a3,a4,hm,hm']
          · have a2 : ¬ j < min (o + i) cs.length + (vs.length + 1):=by omega
            have a4 : ¬ j < min (o + (i + 1)) cs.length + vs.length:=by omega
            simp only [a1,a2,a3,a4,if_false];have x1 : o + i + (vs.length + 1) + (j - (min (o + i) cs.length + (vs.length + 1)))=j:=by omega
            have x2 : o + (i + 1) + vs.length + (j - (min (o + (i + 1)) cs.length + vs.length))=j:=by omega
            rw [x1,x2,if_neg (by omega)]
      rw [e];exact hb2
    · have c1 : Chg [b] w (w.setCell ((⟨b,o,none⟩ : Addr).add i) v):=⟨rfl,rfl,rfl,by simp,fun k hk hn=>heap_setCell_other w _ k v (by rw [Zqn];exact fun e=>hn (by rw [e];exact List.mem_singleton.2 rfl))⟩;exact c1.trans hch
theorem Zqq {x y : Operand} {t T : TypeId} {b o : Nat} {u : Value} {vs cs : List Value} (H : Has a n l) (ex : lo l x=some (.pointer (some ⟨b,o,none⟩))) (ey : lo l y=some u) (hc : u.cells=vs.toArray) (hs : Xb P t=some vs.length)
    (hb : Blk w b cs T) (hl : o + vs.length ≤ cs.length) (h1 : ∀ u ∈ vs,u.oneCell' = true)
    (h : ∀ w',Blk w' b (cs.take o ++ vs ++ cs.drop (o + vs.length)) T → Chg [b] w w' → w'.heap.size=w.heap.size → ∀ a',Has a' n l → wpList P ops Q rest a' w') :
    wpList P ops Q (⟨none,.store t x y,ty,pos,af,none⟩ :: rest) a w:=by
  obtain⟨w',hr,hb',hch,hsz⟩:=Zbs P w b T vs 0 o cs hb (by omega) h1;refine Zt9 (w':=w') H (fun ρ hρ=>?_) rfl (h w' (by simpa using hb') hch hsz);simp [execOp,hρ x _ ex,hρ y _ ey,Instr.storeAt,Instr.sureAddr,storeVar,hc,Hd hs,hr]
def Ret (Φ : Value → World → Prop) (e : Ending) (w : World) : Prop:=∃ v,e=.returned v ∧ Φ v w
theorem Ret.mono {P : Program} {f : FuncId} {args : Array Value} {w : World} {Φ Ψ : Value → World → Prop} (h : Calls P f args w (Ret Φ)) (k : ∀ v w',Φ v w' → Ψ v w') : Calls P f args w (Ret Ψ):=
  h.mono fun _ _ ⟨v,he,hv⟩=>⟨v,he,k v _ hv⟩
def Zt (P : Program) (f : FuncId) : Bool :=
  match P.funcs[f]? with
  | some fn => !(fn.name == "runtime.NumGoroutine") && fn.body.isSome
  | none => false
theorem Kb {f : FuncId} (h : Zt P f = true) (args : Array Value) (w : World) : (callFunc f args).run P w = .ok (.enter f args) w := by
  unfold Zt at h;cases hf : P.funcs[f]? with
  | none => simp [hf] at h
  | some fn =>
    simp only [hf, Bool.and_eq_true, Bool.not_eq_true'] at h;obtain ⟨h1, h2⟩ := h;have h3 : fn.body ≠ none := by intro e; rw [e] at h2; cases h2
    have h4 : fn.name ≠ "runtime.NumGoroutine" := by simpa using h1
    simp [callFunc, hf, h4, h3]
def Zke (l : List (Nat × Option Value)) : List Operand → Option (List Value)
  | []=>some []
  | x :: xs=>match lo l x,Zke l xs with
    | some v,some vs=>some (v :: vs)
    | _,_=>none
theorem Zdh {ρ : Operand → Value} (h : ∀ x u,lo l x=some u → ρ x=u) : ∀ (xs : List Operand) (vs : List Value),Zke l xs=some vs → xs.map ρ=vs
  | [],vs,e=>by simp [Zke] at e;simp [← e]
  | x :: xs,vs,e=>by
    simp only [Zke] at e;split at e
    · rename_i v vs' h1 h2
      cases e
      simp [h x v h1,Zdh h xs vs' h2]
    · cases e
theorem Zic {o : Oper} {K : Act → World → Prop} {f : FuncId} {args : Array Value} {Φ : Value → World → Prop} (hr : (execOp a.eval o).run P w=.ok (.enter f args) w) (hc : Calls P f args w (Ret Φ))
    (h : ∀ v w',Φ v w' → K (a.put o.dst v) w') : o.wp P a w K Q:=by
  unfold Oper.wp;rw [hr];refine hc.mono fun e w' he=>?_
  obtain⟨v,rfl,hv⟩:=he;exact h v w' hv
theorem Zw {f : FuncId} {xs : List Operand} {tys : Array TypeId} {vs : List Value} {Φ : Value → World → Prop} (H : Has a n l) (e : Zke l xs=some vs) (hf : Zt P f=true) (hc : Calls P f vs.toArray w (Ret Φ)) (hd : Nat.blt d n=true)
    (h : ∀ v w',Φ v w' → ∀ a',Has a' n ((d,some v) :: l) → wpList P ops Q rest a' w') :
    wpList P ops Q (⟨some d,.call { callee:=.value (.func f),args:=xs.toArray,argTypes:=tys },ty,pos,af,none⟩ :: rest) a w:=
  wpList_plain rfl fun K hK=>by
    refine Zic (f:=f) (args:=vs.toArray) (by
      have:=Zdh H.eval xs vs e;simp [execOp,resolve,Act.eval,Deferred.ofValue,invoke,Kb hf,this]) hc fun v w' hv=>hK _ _ (h v w' hv _ (H.put d v hd))
theorem Zf6 {f : FuncId} {x : Operand} {xs : List Operand} {tys : Array TypeId} {vs first cap : List Value} {Φ : Value → World → Prop} (H : Has a n l) (ex : lo l x=some (.func (.func f) first.toArray cap.toArray)) (e : Zke l xs=some vs) (hf : Zt P f=true)
    (hc : Calls P f (first ++ vs ++ cap).toArray w (Ret Φ)) (hd : Nat.blt d n=true)
    (h : ∀ v w',Φ v w' → ∀ a',Has a' n ((d,some v) :: l) → wpList P ops Q rest a' w') :
    wpList P ops Q (⟨some d,.call { callee:=.value x,args:=xs.toArray,argTypes:=tys },ty,pos,af,none⟩ :: rest) a w:=
  wpList_plain rfl fun K hK=>by
    refine Zic (f:=f) (args:=(first ++ vs ++ cap).toArray) (by
      have:=Zdh H.eval xs vs e;simp [execOp,resolve,H.eval x _ ex,Deferred.ofValue,invoke,Kb hf,this]) hc fun v w' hv=>hK _ _ (h v w' hv _ (H.put d v hd))
theorem Zk {c : Operand} {x y : Code} {b : Bool} (H : Has a n l) (e : lo l c=some (.bool b)) (ht : b=true → x.wp P Q a w) (hf : b=false → y.wp P Q a w) : (Code.cond c x y).wp P Q a w:=
  wp_cond_split (H.eval c _ e) ht hf
def Zhr : Nat → List Value → List (Nat × Option Value)
  | _,[]=>[]
  | i,v :: vs=>(i,some v) :: Zhr (i + 1) vs
theorem Zo7 : ∀ (vs : List Value) (i t : Nat) (v : Value),lk (Zhr i vs) t=some v → i ≤ t ∧ vs[t - i]? = some v
  | [],i,t,v,e=>by simp [Zhr,lk] at e
  | u :: vs,i,t,v,e=>by
    simp only [Zhr,lk] at e;cases hq : Nat.beq i t with
    | true=>
      rw [hq] at e;have:=Nat.eq_of_beq_eq_true hq;subst this;simp only [cond_true] at e;simp [e]
    | false=>
      rw [hq] at e;obtain⟨h1,h2⟩:=Zo7 vs (i + 1) t v e;refine⟨by omega,?_⟩;rw [show t - i=(t - (i + 1)) + 1 by omega,List.getElem?_cons_succ];exact h2
theorem enter {f : FuncId} {fn : Func} {c : Code} {vs : List Value} {R : Ending → World → Prop} (hf : P.funcs[f]? = some fn) (hb : fn.body=some c) (hn : fn.ntmps=n) (hle : Nat.ble vs.length n=true)
    (h : ∀ a,Has a n (Zhr 0 vs) → c.wp P (bodyPost P fn R) a w) : Calls P f vs.toArray w R:=by
  refine calls_of_wp hf hb (h _ ⟨?_,rfl,fun t v e=>?_⟩)
  · have:=Nat.le_of_ble_eq_true hle;simp [hn];omega
  · obtain⟨_,h2⟩:=Zo7 vs 0 t v e;simp only [Nat.sub_zero] at h2;have hlt : t < vs.length:=(List.getElem?_eq_some_iff.1 h2).1;simp [hn,Array.getElem?_append,hlt];exact (List.getElem?_eq_some_iff.1 h2).2
theorem Qg {fn : Func} {Φ : Value → World → Prop} {e : Exit} {t : Nat} (H : Has a n l) (he : e=.normal ∨ e=.ret) (hr : fn.results = #[.tmp t]) (hv : lk l t=some v) (h : Φ v w) : bodyPost P fn (Ret Φ) e a w:=by
  have hres : (results fn a.tmps).run P w=.ok v w:=by rw [results_tmp hr];simp [H.val t v hv]
  rcases he with rfl|rfl <;> exact⟨H.defers,v,hres,v,rfl,h⟩
theorem Zkf {fn : Func} {Φ : Value → World → Prop} {e : Exit} {t u : Nat} {v2 : Value} (H : Has a n l) (he : e=.normal ∨ e=.ret) (hr : fn.results = #[.tmp t,.tmp u]) (hv : lk l t=some v) (hu : lk l u=some v2) (h : Φ (.tuple #[v,v2]) w) : bodyPost P fn (Ret Φ) e a w:=by
  have hres : (results fn a.tmps).run P w=.ok (.tuple #[v,v2]) w:=by rw [results_tmp2 hr];simp [H.val t v hv,H.val u v2 hu]
  rcases he with rfl|rfl <;> exact⟨H.defers,_,hres,_,rfl,h⟩
end
section
variable {P : Program} {Q : Exit → Act → World → Prop} {K : Act → World → Prop} {a : Act} {w : World} {n : Nat} {l : List (Nat × Option Value)}
theorem Zd (h : K a w) : Exit.then K Q .normal a w:=h
theorem Zi {id : Nat} (h : Q (.exit id) a w) : Exit.then K Q (.exit id) a w:=h
theorem Zf (h : Q .ret a w) : Exit.then K Q .ret a w:=h
theorem Zj {id : Nat} (h : Q .normal a w) : Exit.inBlock id Q .normal a w:=h
theorem Zs {id : Nat} (h : Q .normal a w) : Exit.inBlock id Q (.exit id) a w:=by simp only [Exit.inBlock,if_true];exact h
theorem Zg {id : Nat} (h : Q .ret a w) : Exit.inBlock id Q .ret a w:=h
def Round {σ : Type} (n : Nat) (L : σ → List (Nat × Value)) (R : σ → World → Prop) (μ : σ → Nat) (x : σ) (a : Act) (w : World) : Prop:=
  ∃ x' l',Has a n l' ∧ Sub (L x') l' ∧ R x' w ∧ μ x' < μ x
theorem Xp {σ : Type} {L : σ → List (Nat × Value)} {R : σ → World → Prop} {μ : σ → Nat} {x : σ} (x' : σ) (H : Has a n l) (hs : Sub (L x') l) (hR : R x' w) (hm : μ x' < μ x) : Round n L R μ x a w:=⟨x',l,H,hs,hR,hm⟩
def Join {σ : Type} (n : Nat) (L : σ → List (Nat × Value)) (R : σ → World → Prop) (a : Act) (w : World) : Prop:=∃ x l',Has a n l' ∧ Sub (L x) l' ∧ R x w
theorem Jc {σ : Type} {L : σ → List (Nat × Value)} {R : σ → World → Prop} (x : σ) (H : Has a n l) (hs : Sub (L x) l) (hR : R x w) : Join n L R a w:=⟨x,l,H,hs,hR⟩
theorem Xo {σ : Type} {c1 c2 : Code} (H0 : Has a n l) (L : σ → List (Nat × Value)) (R : σ → World → Prop) (h1 : c1.wp P (Exit.then (Join n L R) Q) a w) (h2 : ∀ x a w,Has a n (ent (L x)) → R x w → c2.wp P Q a w) : (Code.seq c1 c2).wp P Q a w:=
  wp_seq (Code.wp_mono (fun e a w q=>by
    cases e with
    | normal=>
      obtain⟨x,l',H,hs,hR⟩:=q;exact h2 x a w (H.sub _ hs) hR
    | _=>exact q) h1)
theorem Qm {σ : Type} {c : Code} (L : σ → List (Nat × Value)) (R : σ → World → Prop) (μ : σ → Nat) (x0 : σ) (H : Has a n l) (hs : Sub (L x0) l) (hR : R x0 w)
    (h : ∀ x a w,Has a n (ent (L x)) → R x w → c.wp P (Exit.then (Round n L R μ x) Q) a w) : (Code.loop c).wp P Q a w:=by
  intro b k cs;have key : ∀ m x a w,μ x=m → Has a n (ent (L x)) → R x w →
      ∃ e a' w',Q e a' w' ∧ Arrives P (lone (b.at a (.code c :: .inLoop c :: k)) cs w) b k cs e a' w':=by
    intro m
    induction m using Nat.strongRecOn with
    | _ m ih=>
      intro x a w hm H hR;obtain⟨e,a1,w1,hq,harr⟩:=h x a w H hR b (.inLoop c :: k) cs;cases e with
      | normal=>
        obtain⟨x',l',H',hs',hR',hlt⟩:=hq;obtain⟨e2,a2,w2,hq2,harr2⟩:=ih (μ x') (hm ▸ hlt) x' a1 w1 rfl (H'.sub _ hs') hR';exact⟨e2,a2,w2,hq2,.of_steps (Steps.trans harr (.one step_inLoop)) harr2⟩
      | exit id=>exact⟨_,a1,w1,hq,.pass (x := .inLoop c) rfl (fun _ _=>.inl (by simp)) harr⟩
      | goto q=>exact⟨_,a1,w1,hq,.pass (x := .inLoop c) rfl (fun _ _=>.inl (by simp)) harr⟩
      | ret=>exact⟨_,a1,w1,hq,.pass (x := .inLoop c) rfl (fun _ _=>.inl (by simp)) harr⟩
      | panic ch=>exact⟨_,a1,w1,hq,.pass (x := .inLoop c) rfl (fun _ _=>.inl (by simp)) harr⟩
      | outgrown=>exact⟨_,a1,w1,hq,.pass (x := .inLoop c) rfl (fun _ _=>.inl (by simp)) harr⟩
  obtain⟨e,a',w',hq,harr⟩:=key _ x0 a w rfl (H.sub _ hs) hR;exact⟨e,a',w',hq,.of_steps (.one step_loop) harr⟩
end
section
variable {P : Program} {ops : Array Oper} {Q : Exit → Act → World → Prop} {Qp : Act → Prop} {rest : List Oper} {a : Act} {n : Nat} {l : List (Nat × Option Value)} {lc : List (Nat × (Nat × Bool) × Value)} {w : World}
  {op : Op} {ty : TypeId} {pos : String} {af : Array Edge} {d : Nat} {v : Value}
theorem Ku {id : Nat} (hm : P.follows .mixedOrders=true) (hB : Region.lexB .any ops=true) (h : wpQuiet P ops (Ext w) (fun a'=>∀ w',Ext w w' → Q .normal a' w') ops.toList a) : (Code.region id ops true).wp P Q a w:=
  wp_region_quiet hm hB (Ext.drew' w) h
theorem Yy (h : Qp a) : wpQuiet P ops (Ext w) Qp [] a:=h
theorem Zpq {o : Oper} {v : Value} {w' : World} (hr : (execOp a.eval o).run P w' = .ok (.value v) w') : o.quietAt P a (Ext w) w' v:=by
  unfold Oper.quietAt;rw [hr];exact⟨rfl,rfl⟩
theorem Qd (H : Has a n l) (q : Q1 P (lo l) op (Ext w) v) (hd : Nat.blt d n=true) (h : ∀ a',Has a' n ((d,some v) :: l) → wpQuiet P ops (Ext w) Qp rest a') :
    wpQuiet P ops (Ext w) Qp (⟨some d,op,ty,pos,af,none⟩ :: rest) a:=by
  refine wpQuiet_step fun K hK=>?_
  rw [if_pos (by simp [Region.wanted])];exact⟨v,fun w' hw=>Zpq (q a.eval H.eval w' hw (some d) ty pos af none),hK _ (h _ (H.put d v hd))⟩
def Zua (P : Program) (f : FuncId) (vs : List Value) (w : World) (v : Value) : Prop:=∀ w',Ext w w' → Calls P f vs.toArray w' (Ret fun u w''=>u=v ∧ Ext w' w'')
theorem Zmu {o : Oper} {f : FuncId} {vs : List Value} {v : Value} {w' : World} (hr : (execOp a.eval o).run P w' = .ok (.enter f vs.toArray) w') (hw : Ext w w') (hc : Zua P f vs w v) : o.quietAt P a (Ext w) w' v:=by
  unfold Oper.quietAt;rw [hr];exact⟨rfl,(hc w' hw).mono fun e w'' ⟨u,he,hu,hx⟩=>by subst hu;exact⟨he,hw.trans' hx⟩⟩
theorem Zqr {f : FuncId} {xs : List Operand} {tys : Array TypeId} {vs : List Value} (H : Has a n l) (e : Zke l xs=some vs) (hf : Zt P f=true) (hc : Zua P f vs w v) (hd : Nat.blt d n=true)
    (h : ∀ a',Has a' n ((d,some v) :: l) → wpQuiet P ops (Ext w) Qp rest a') :
    wpQuiet P ops (Ext w) Qp (⟨some d,.call { callee:=.value (.func f),args:=xs.toArray,argTypes:=tys },ty,pos,af,none⟩ :: rest) a:=by
  refine wpQuiet_step fun K hK=>?_
  rw [if_pos (by simp [Region.wanted])];have:=Zdh H.eval xs vs e;exact⟨v,fun w' hw=>Zmu (f:=f) (vs:=vs) (by simp [execOp,resolve,Act.eval,Deferred.ofValue,invoke,Kb hf,this]) hw hc,hK _ (h _ (H.put d v hd))⟩
end
end Go.Proofs.YtjekfpnpfllaoaaGreatDoor
set_option linter.unusedVariables false
set_option linter.unusedSimpArgs false
set_option linter.unusedSectionVars false
namespace Go.Proofs.YtjekfpnpfllaoaaGreatDoor
open Go Go.RowKit
section
variable {P : Program} {L : Operand → Option Value} {C : World → Prop} {x y z : Operand} {t t' : TypeId}
theorem Xy {op : Op} {v u : Value} (q : Q1 P L op C v) (h : v=u) : Q1 P L op C u:=h ▸ q
section i64
variable {a b : Int} (ex : L x=some (.int .i64 a)) (ey : L y=some (.int .i64 b))
include ex ey
theorem q_add (h : I64 (a + b)) : Q1 P L (.binOp .add t x y t') C (.int .i64 (a + b)):=Xy (Yh ex ey) (by rw [Jw h])
end i64
section bits
variable {k : IntKind} {a b : Int} (ex : L x=some (.int k a)) (ey : L y=some (.int k b))
include ex ey
end bits
def Zk4 : Value → Bool
  | .bool _ | .pointer _ | .slice .. | .map _ | .func .. | .nilFunc | .nilIface | .iface .. | .agg _=>true
  | _=>false
def Zhs : Value → Value → Bool
  | .nilIface,.nilIface=>false
  | .agg _,.agg _=>false
  | _,_=>true
theorem Zk5 {t : TypeId} {u v : Value} {r : Bool} {w : World} (hu : Zk4 u=true) (h : ∀ d : Nat,(Op.equalIn (d + 1) t u v).run P w=.ok r w) : (binOp .eql t u v).run P w=.ok (.bool r) w:=by
  have h' : (Op.equal t u v).run P w=.ok r w:=h 9999;cases u <;> simp only [Zk4,Bool.false_eq_true] at hu <;> (simp only [binOp];rw [Sem.run_bind,h'];simp)
theorem Zk6 {t : TypeId} {u v : Value} {r : Bool} {w : World} (hu : Zk4 u=true) (h : ∀ d : Nat,(Op.equalIn (d + 1) t u v).run P w=.ok r w) : (binOp .neq t u v).run P w=.ok (.bool (!r)) w:=by
  have h' : (Op.equal t u v).run P w=.ok r w:=h 9999;cases u <;> simp only [Zk4,Bool.false_eq_true] at hu <;> (simp only [binOp];rw [Sem.run_bind,h'];simp)
theorem Zht {op : BinOp} {t : TypeId} {x y : Operand} {u v : Value} {w : World} (h : Zhs u v=true) : (eqGuard op t x y u v).run P w=.ok () w:=by
  cases op <;> first | (simp [eqGuard];done) | (cases u <;> first | (simp [eqGuard];done) | (cases v <;> first | (simp [eqGuard];done) | (simp [Zhs] at h)))
theorem Zn8 {u v : Value} {r : Bool} (ex : L x=some u) (ey : L y=some v) (hu : Zk4 u=true) (hg : Zhs u v=true) (h : ∀ (d : Nat) (w : World),(Op.equalIn (d + 1) t u v).run P w=.ok r w) : Q1 P L (.binOp .eql t x y t') C (.bool r):=
  fun ρ h' w' _ dst ty pos af g=>by
    simp only [execOp,h' x _ ex,h' y _ ey];rw [Sem.run_bind,Sem.run_bind,Zht hg];simp [Zk5 hu (fun d=>h d w')]
theorem Zqs {u v : Value} {r : Bool} (ex : L x=some u) (ey : L y=some v) (hu : Zk4 u=true) (hg : Zhs u v=true) (h : ∀ (d : Nat) (w : World),(Op.equalIn (d + 1) t u v).run P w=.ok r w) : Q1 P L (.binOp .neq t x y t') C (.bool (!r)):=
  fun ρ h' w' _ dst ty pos af g=>by
    simp only [execOp,h' x _ ex,h' y _ ey];rw [Sem.run_bind,Sem.run_bind,Zht hg];simp [Zk6 hu (fun d=>h d w')]
theorem q_eqlB {a b : Bool} (ht : P.underlying t=some .bool) (ex : L x=some (.bool a)) (ey : L y=some (.bool b)) : Q1 P L (.binOp .eql t x y t') C (.bool (a == b)):=
  Zn8 ex ey rfl rfl fun d w=>by simp [Op.equalIn,run_underlying ht]
theorem Zqt {a b : Bool} (ht : P.underlying t=some .bool) (ex : L x=some (.bool a)) (ey : L y=some (.bool b)) : Q1 P L (.binOp .neq t x y t') C (.bool (!(a == b))):=
  Zqs ex ey rfl rfl fun d w=>by simp [Op.equalIn,run_underlying ht]
theorem Zqu {s u : ByteArray} (h : s.toList=u.toList) : s=u:=by
  rw [ByteArray.toList_eq,ByteArray.toList_eq] at h;obtain⟨⟨a⟩⟩:=s;obtain⟨⟨b⟩⟩:=u;simp only at h;rw [h]
theorem Zqv (s u : ByteArray) : (s.toList == u.toList)=decide (s=u):=by
  by_cases h : s=u
  · subst h;simp
  · rw [decide_eq_false h];cases hq : (s.toList == u.toList) with
    | false=>rfl
    | true=>exact absurd (Zqu (eq_of_beq hq)) h
theorem Zub {s u : ByteArray} (ex : L x=some (.string s)) (ey : L y=some (.string u)) : Q1 P L (.binOp .neq t x y t') C (.bool (!decide (s=u))):=
  fun ρ h w' _ dst ty pos af g=>by simp only [execOp,h x _ ex,h y _ ey];simp [eqGuard,binOp,Op.stringOp,Zqv]
theorem Zqw {T : TypeId} {e : TypeId} {A : Option Addr} {n c : Nat} (ht : P.underlying T=some (.slice e)) (ex : L x=some (.slice A n c)) :
    Q1 P L (.call { callee:=.builtin .len,args:=#[x],argTypes:=#[T] }) C (.int .i64 n):=
  fun ρ h w' _ dst ty pos af g=>by simp [execOp,resolve,invoke,builtin,h x _ ex,Builtin.len_,run_underlying ht,goInt]
theorem Zmv {T : TypeId} {s : ByteArray} (ht : P.underlying T=some .string) (ex : L x=some (.string s)) :
    Q1 P L (.call { callee:=.builtin .len,args:=#[x],argTypes:=#[T] }) C (.int .i64 s.size):=
  fun ρ h w' _ dst ty pos af g=>by simp [execOp,resolve,invoke,builtin,h x _ ex,Builtin.len_,run_underlying ht,goInt]
theorem Zup {T e : TypeId} {A : Option Addr} {n c n' c' : Nat} (ht : P.underlying T=some (.slice e)) (ex : L x=some (.slice A n c)) (ey : L y=some (.slice none n' c')) :
    Q1 P L (.binOp .eql T x y t') C (.bool A.isNone):=
  Zn8 ex ey rfl rfl fun d w=>by cases A <;> simp [Op.equalIn,run_underlying ht]
theorem Zdi {T e k : Nat} {ad : Addr} {n c : Nat} {q : IntKind} {i : Int} (ht : P.underlying T=some (.slice e)) (hk : Xb P e=some k) (ex : L x=some (.slice (some ad) n c)) (ey : L y=some (.int q i)) (h0 : 0 ≤ i) (hn : i < n) :
    Q1 P L (.indexAddr T x y) C (.pointer (some (ad.add (i.toNat * k)))):=
  fun ρ h w' _ dst ty pos af g=>by simp [execOp,h x _ ex,h y _ ey,Instr.indexAt,asIntOf,run_underlying ht,h0,hn,Hd hk]
theorem Zsv {T : TypeId} {s : ByteArray} {q : IntKind} {i : Int} (ht : P.underlying T=some .string) (ex : L x=some (.string s)) (ey : L y=some (.int q i)) (h0 : 0 ≤ i) (hn : i.toNat < s.size) :
    Q1 P L (.index T x y) C (.int .u8 ((s[i.toNat]'hn).toNat : Int)):=
  fun ρ h w' _ dst ty pos af g=>by
    have : s[i.toNat]? = some (s[i.toNat]'hn):=by simp [getElem?_pos,hn]
    simp [execOp,h x _ ex,h y _ ey,Instr.index,asIntOf,run_underlying ht,h0,this]
def Zg1 : Value → Bool
  | .nilIface=>true
  | _=>false
theorem Ziq {T : TypeId} {ms : Array (String × TypeId)} {v : Value} (ht : P.underlying T=some (.interface ms)) (ex : L x=some v) (ey : L (.const .nilIface)=some .nilIface) (hv : v=.nilIface ∨ ∃ u x,v=.iface u x) : Q1 P L (.binOp .eql T x (.const .nilIface) t') C (.bool (Zg1 v)):=by
  rcases hv with rfl | ⟨u,q,rfl⟩
  · intro ρ h w' hw dst ty pos af g;have h' : ∀ d : Nat,(Op.equalIn (d + 1) T .nilIface .nilIface).run P w' = .ok true w':=fun d=>by simp [Op.equalIn,run_underlying ht]
    simp only [execOp,h x _ ex,h _ _ ey];rw [Sem.run_bind,Sem.run_bind];have hg : (eqGuard .eql T x (.const .nilIface) .nilIface .nilIface).run P w' = .ok () w':=by simp [eqGuard]
    rw [hg];simp [Zk5 (u:=.nilIface) rfl h',Zg1]
  · exact Zn8 ex ey rfl rfl fun d w=>by simp [Op.equalIn,run_underlying ht,Zg1]
theorem Vi {T : TypeId} {ms : Array (String × TypeId)} {v : Value} (ht : P.underlying T=some (.interface ms)) (ex : L x=some v) (ey : L (.const .nilIface)=some .nilIface) (hv : v=.nilIface ∨ ∃ u x,v=.iface u x) : Q1 P L (.binOp .neq T x (.const .nilIface) t') C (.bool (!Zg1 v)):=by
  rcases hv with rfl | ⟨u,q,rfl⟩
  · intro ρ h w' hw dst ty pos af g;have h' : ∀ d : Nat,(Op.equalIn (d + 1) T .nilIface .nilIface).run P w' = .ok true w':=fun d=>by simp [Op.equalIn,run_underlying ht]
    simp only [execOp,h x _ ex,h _ _ ey];rw [Sem.run_bind,Sem.run_bind];have hg : (eqGuard .neq T x (.const .nilIface) .nilIface .nilIface).run P w' = .ok () w':=by simp [eqGuard]
    rw [hg];simp [Zk6 (u:=.nilIface) rfl h',Zg1]
  · exact Zqs ex ey rfl rfl fun d w=>by simp [Op.equalIn,run_underlying ht,Zg1]
theorem Zeo {fn : Fn} {first cap : Array Operand} {f c : List Value} (hf : first.toList.map L=f.map some) (hc : cap.toList.map L=c.map some) : Q1 P L (.makeFunc fn first cap) C (.func fn f.toArray c.toArray):=
  fun ρ h w' _ dst ty pos af g=>by
    have key : ∀ (xs : List Operand) (vs : List Value),xs.map L=vs.map some → xs.map ρ=vs:=by
      intro xs
      induction xs with
      | nil=>intro vs e;cases vs with | nil=>rfl | cons v vs=>simp at e
      | cons x xs ih=>
        intro vs e;cases vs with
        | nil=>simp at e
        | cons v vs=>
          simp only [List.map_cons,List.cons.injEq] at e;simp [h x v e.1,ih vs e.2]
    have e1 : first.map ρ=f.toArray:=by apply Array.ext';simp [key _ _ hf]
    have e2 : cap.map ρ=c.toArray:=by apply Array.ext';simp [key _ _ hc]
    simp [execOp,Instr.makeFunc,e1,e2]
theorem Zdj {T : TypeId} {v : Value} {dsc : TypeDesc} (ht : P.underlying T=some dsc) (hd : ∀ ms,dsc ≠ .interface ms) (ex : L x=some v) : Q1 P L (.makeInterface T x) C (.iface T v):=
  fun ρ h w' _ dst ty pos af g=>by
    simp only [execOp,h x _ ex];cases dsc <;> simp [Instr.makeInterface,run_underlying ht]
    exact absurd rfl (hd _)
theorem Zid {src T : TypeId} {k k' : IntKind} {a : Int} {dsc : TypeDesc} (hs : P.underlying src=some dsc) (ht : P.underlying T=some (.int k')) (hd : ∃ q,dsc=.int q) (ex : L x=some (.int k a)) : Q1 P L (.convert src T x) C (.int k' (k'.wrap a)):=
  fun ρ h w' _ dst ty pos af g=>by
    obtain⟨q,rfl⟩:=hd;simp [execOp,h x _ ex,convert,run_underlying hs,run_underlying ht,Conv.intToInt]
end
end Go.Proofs.YtjekfpnpfllaoaaGreatDoor
set_option linter.unusedVariables false
set_option linter.unusedSimpArgs false
set_option linter.unusedSectionVars false
namespace Go.Proofs.YtjekfpnpfllaoaaGreatDoor
open Go Go.RowKit
def SlR {α : Type} (w : World) (k : Nat) (R : World → List Value → α → Prop) (v : Value) (xs : List α) : Prop:=
  ∃ A c,v=.slice A xs.length c ∧ xs.length ≤ c ∧ c ≤ maxLen ∧ (A=none → xs=[] ∧ c=0) ∧ ∀ ad,A=some ad → ∀ i x,xs[i]? = some x → ∃ cs : List Value,cs.length=k ∧ R w cs x ∧ ∀ j u,cs[j]? = some u → w.cell? (ad.add (i * k + j))=some u
def Zpr {α : Type} (R : World → List Value → α → Prop) : Prop:=∀ w w' cs x,Agr w w' → R w cs x → R w' cs x
def Qs {α : Type} (enc : α → List Value) : World → List Value → α → Prop:=fun _ cs x=>cs=enc x
theorem Qs.mono {α : Type} (enc : α → List Value) : Zpr (Qs enc):=fun _ _ _ _ _ h=>h
theorem SlR.agr {α : Type} {w w' : World} {k : Nat} {R : World → List Value → α → Prop} {v : Value} {xs : List α} (hR : Zpr R) (h : SlR w k R v xs) (e : Agr w w') : SlR w' k R v xs:=by
  obtain⟨A,c,h1,h2,h3,h4,h5⟩:=h;refine⟨A,c,h1,h2,h3,h4,fun ad ha i x hx=>?_⟩;obtain⟨cs,g1,g2,g3⟩:=h5 ad ha i x hx;exact⟨cs,g1,hR _ _ _ _ e g2,fun j u hu=>Zhp (g3 j u hu) e⟩
theorem SlR.ext {α : Type} {w w' : World} {k : Nat} {R : World → List Value → α → Prop} {v : Value} {xs : List α} (hR : Zpr R) (h : SlR w k R v xs) (e : Ext w w') : SlR w' k R v xs:=h.agr hR e.agr
theorem SlR.form {α : Type} {w : World} {k : Nat} {R : World → List Value → α → Prop} {v : Value} {xs : List α} (h : SlR w k R v xs) :
    ∃ A c,v=.slice A xs.length c ∧ xs.length ≤ c ∧ c ≤ 9223372036854775807 ∧ (A=none → xs=[] ∧ c=0):=by
  obtain⟨A,c,h1,h2,h3,h4,_⟩:=h;exact⟨A,c,h1,h2,by simpa [maxLen] using h3,h4⟩
theorem SlR.el {α : Type} {w : World} {k : Nat} {R : World → List Value → α → Prop} {ad : Addr} {n c : Nat} {xs : List α} (h : SlR w k R (.slice (some ad) n c) xs) {i : Nat} {x : α} (hx : xs[i]? = some x) :
    ∃ cs : List Value,cs.length=k ∧ R w cs x ∧ ∀ j u,cs[j]? = some u → w.cell? (ad.add (i * k + j))=some u:=by
  obtain⟨A,c',h1,h2,h3,h4,h5⟩:=h;cases h1
  exact h5 ad rfl i x hx
section
variable {P : Program} {w : World}
theorem SlR.ldAgg {α : Type} {enc : α → List Value} {k : Nat} {ad : Addr} {n c : Nat} {xs : List α} {T : TypeId} (h : SlR w k (Qs enc) (.slice (some ad) n c) xs) (ht : Ty P T=some true) (hs : Xb P T=some k) {i : Nat} {x : α} (hx : xs[i]? = some x) :
    LdX P T w (ad.add (i * k)) (.agg (enc x).toArray):=by
  obtain⟨cs,h1,h2,h3⟩:=h.el hx;have h2' : cs=enc x:=h2;subst h2';exact LdX.agg ht (by rw [hs,h1]) fun j u hu=>by rw [Zdg];exact h3 j u hu
theorem SlR.ldOne {α : Type} {enc : α → List Value} {ad : Addr} {n c : Nat} {xs : List α} {T : TypeId} {u : Value} (h : SlR w 1 (Qs enc) (.slice (some ad) n c) xs) (ht : Ty P T=some false) {i : Nat} {x : α} (hx : xs[i]? = some x) (he : enc x=[u]) :
    LdX P T w (ad.add (i * 1)) u:=by
  obtain⟨cs,h1,h2,h3⟩:=h.el hx;have h2' : cs=enc x:=h2;subst h2';exact LdX.one ht (by have:=h3 0 u (by rw [he];rfl);simpa using this)
theorem SlR.ldCell {α : Type} {enc : α → List Value} {k : Nat} {ad : Addr} {n c : Nat} {xs : List α} {T : TypeId} {u : Value} (h : SlR w k (Qs enc) (.slice (some ad) n c) xs) (ht : Ty P T=some false) {i j : Nat} {x : α} (hx : xs[i]? = some x) (he : (enc x)[j]? = some u) :
    LdX P T w ((ad.add (i * k)).add j) u:=by
  obtain⟨cs,h1,h2,h3⟩:=h.el hx;have h2' : cs=enc x:=h2;subst h2';exact LdX.one ht (by rw [Zdg];exact h3 j u he)
def Own (w : World) (E k : Nat) (v : Value) (n : Nat) (xs : List Value) : Prop:=
  (v=.slice none 0 0 ∧ n=0 ∧ xs=[]) ∨
  ∃ b cap cs,v=.slice (some ⟨b,0,none⟩) n cap ∧ Blk w b cs E ∧ n ≤ cap ∧ cap ≤ maxLen ∧ cs.length=cap * k ∧ xs.length=n * k ∧ cs.take (n * k)=xs
def Zap : Value → List Nat
  | .slice (some a) _ _=>[a.block]
  | _=>[]
theorem Own.nil (w : World) (E k : Nat) : Own w E k (.slice none 0 0) 0 []:=.inl ⟨rfl,rfl,rfl⟩
theorem Own.len {E k : Nat} {v : Value} {n : Nat} {xs : List Value} (h : Own w E k v n xs) : xs.length=n * k:=by
  rcases h with ⟨_,rfl,rfl⟩ | ⟨b,cap,cs,_,_,_,_,_,h,_⟩
  · simp
  · exact h
theorem Own.ext {w' : World} {E k : Nat} {v : Value} {n : Nat} {xs : List Value} (h : Own w E k v n xs) (e : Ext w w') : Own w' E k v n xs:=by
  rcases h with h | ⟨b,cap,cs,h1,h2,h3⟩
  · exact .inl h
  · exact .inr ⟨b,cap,cs,h1,h2.ext e,h3⟩
theorem Own.chg {w' : World} {S : List Nat} {E k : Nat} {v : Value} {n : Nat} {xs : List Value} (h : Own w E k v n xs) (c : Chg S w w') (hd : ∀ b ∈ Zap v,b ∉ S) : Own w' E k v n xs:=by
  rcases h with h | ⟨b,cap,cs,h1,h2,h3⟩
  · exact .inl h
  · exact .inr ⟨b,cap,cs,h1,c.blk h2 (hd b (by rw [h1];simp [Zap])),h3⟩
theorem Own.lt {E k : Nat} {v : Value} {n : Nat} {xs : List Value} (h : Own w E k v n xs) : ∀ b ∈ Zap v,b < w.heap.size:=by
  rcases h with ⟨rfl,_⟩ | ⟨b,cap,cs,rfl,h2,_⟩
  · simp [Zap]
  · intro c hc;simp [Zap] at hc;subst hc;exact h2.lt
theorem Own.cell {E k b cap : Nat} {n : Nat} {xs : List Value} (h : Own w E k (.slice (some ⟨b,0,none⟩) n cap) n xs) {j : Nat} {u : Value} (hu : xs[j]? = some u) : w.cell? ⟨b,j,none⟩=some u:=by
  rcases h with ⟨h,_⟩ | ⟨b',cap',cs,h1,h2,_,_,_,_,h3⟩
  · cases h
  · cases h1
    rw [h2.cell];rw [← h3,List.getElem?_take] at hu;split at hu
    · exact hu
    · cases hu
theorem Own.form {E k : Nat} {v : Value} {n : Nat} {xs : List Value} (h : Own w E k v n xs) : ∃ A c,v=.slice A n c ∧ n ≤ c ∧ c ≤ maxLen ∧ (A=none → n=0 ∧ c=0) ∧ ∀ ad,A=some ad → ad.off=0 ∧ ad.spot=none:=by
  rcases h with ⟨rfl,rfl,_⟩ | ⟨b,cap,cs,rfl,_,h1,h2,_⟩
  · exact⟨none,0,rfl,Nat.le_refl _,Nat.zero_le _,fun _=>⟨rfl,rfl⟩,by simp⟩
  · exact⟨_,cap,rfl,h1,h2,by simp,by simp⟩
theorem Own.slr {α : Type} {enc : α → List Value} {E k : Nat} {v : Value} {n : Nat} {xs : List α} (h : Own w E k v n (xs.flatMap enc)) (hn : n=xs.length) (hk : ∀ x ∈ xs,(enc x).length=k) : SlR w k (Qs enc) v xs:=by
  subst hn
  rcases h with ⟨rfl,h0,h1⟩ | ⟨b,cap,cs,rfl,h1,h2,h3,h4,h5,h6⟩
  · have : xs=[]:=List.eq_nil_of_length_eq_zero h0;subst this;exact⟨none,0,rfl,Nat.le_refl _,Nat.zero_le _,fun _=>⟨rfl,rfl⟩,by simp⟩
  · refine⟨_,cap,rfl,h2,h3,by simp,fun ad ha i x hx=>?_⟩;cases ha
    refine⟨enc x,hk x (List.mem_of_getElem? hx),rfl,fun j u hu=>?_⟩;rw [Yx,h1.cell];have hflat : ∀ (ys : List α) (i : Nat),(∀ y ∈ ys,(enc y).length=k) → ys[i]? = some x → (ys.flatMap enc)[i * k + j]? = some u:=by
      intro ys
      induction ys with
      | nil=>intro i _ hi;simp at hi
      | cons y ys ih=>
        intro i hall hi;have hy:=hall y List.mem_cons_self;cases i with
        | zero=>
          simp only [List.getElem?_cons_zero,Option.some.injEq] at hi;subst hi;have hj : j < (enc y).length:=(List.getElem?_eq_some_iff.1 hu).1;simp only [List.flatMap_cons,Nat.zero_mul,Nat.zero_add];rw [List.getElem?_append_left hj];exact hu
        | succ i=>
          simp only [List.getElem?_cons_succ] at hi;have:=ih i (fun z hz=>hall z (List.mem_cons_of_mem _ hz)) hi;simp only [List.flatMap_cons];rw [List.getElem?_append_right (by rw [hy,Nat.add_mul];omega),hy];rw [show (i + 1) * k + j - k=i * k + j by rw [Nat.add_mul];omega];exact this
    have:=hflat xs i hk hx;rw [← h6,List.getElem?_take] at this;split at this
    · exact this
    · cases this
def Src (w : World) (k : Nat) (x : Value) (m : Nat) (news : List Value) : Prop:=
  (∃ c,x=.slice none 0 c ∧ m=0 ∧ news=[]) ∨
  (∃ ad c,x=.slice (some ad) m c ∧ news.length=m * k ∧ ∀ j u,news[j]? = some u → w.cell? (ad.add j)=some u) ∨
  (∃ s : ByteArray,x=.string s ∧ k=1 ∧ m=s.size ∧ news=s.data.toList.map fun b=>Value.int .u8 b.toNat)
theorem Src.len {k : Nat} {x : Value} {m : Nat} {news : List Value} (h : Src w k x m news) : news.length=m * k:=by
  rcases h with ⟨c,_,rfl,rfl⟩ | ⟨ad,c,_,h,_⟩ | ⟨s,_,rfl,rfl,rfl⟩
  · simp
  · exact h
  · rw [List.length_map,Array.length_toList,Nat.mul_one];rfl
theorem Src.lenOf {k : Nat} {x : Value} {m : Nat} {news : List Value} (h : Src w k x m news) (w' : World) : (Builtin.lenOf x).run P w' = .ok m w':=by
  rcases h with ⟨c,rfl,rfl,_⟩ | ⟨ad,c,rfl,_⟩ | ⟨s,rfl,_,rfl,_⟩ <;> simp [Builtin.lenOf]
theorem Src.first {k : Nat} {x : Value} {m : Nat} {news : List Value} (h : Src w k x m news) {w' : World} (he : ∀ a,w'.cell? a=w.cell? a) : (Builtin.firstCells k m x).run P w' = .ok news.toArray w':=by
  rcases h with ⟨c,rfl,rfl,rfl⟩ | ⟨ad,c,rfl,hl,hc⟩ | ⟨s,rfl,rfl,rfl,rfl⟩
  · simp [Builtin.firstCells]
  · exact run_firstCells_some (P:=P) w' k m ad m c news hl (fun j u hu=>by rw [he];exact hc j u hu)
  · have e : s.extract 0 s.size=s:=by simp
    simp only [Builtin.firstCells,e,Sem.run_pure]
    congr 1
    apply Array.ext';simp
theorem Own.src {E k : Nat} {v : Value} {n : Nat} {xs : List Value} (h : Own w E k v n xs) : Src w k v n xs:=by
  rcases h with ⟨rfl,rfl,rfl⟩ | ⟨b,cap,cs,rfl,h1,h2,h3,h4,h5,h6⟩
  · exact .inl ⟨0,rfl,rfl,rfl⟩
  · refine .inr (.inl ⟨_,cap,rfl,h5,fun j u hu=>?_⟩);rw [Yx,h1.cell];rw [← h6,List.getElem?_take] at hu;split at hu
    · exact hu
    · cases hu
structure ElemOk (P : Program) (E k bytes : Nat) (z : List Value) : Prop where
  size : Xb P E=some k
  zero : Tw P E=some z
  bytesE : (P.info? E).map (·.bytes)=some bytes
  zlen : z.length=k
  pos : 0 < k
theorem app3 (xs news : List Value) (Z : Array Value) : xs.toArray ++ (news.toArray ++ Z)=(xs ++ news).toArray ++ Z:=by apply Array.ext';simp
theorem Zlo (z : Array Value) (n : Nat) : (Builtin.zeroCells z n).size=n * z.size:=by simp [Builtin.zeroCells]
theorem Zk7 {t t' ty E k bytes : Nat} {z : List Value} {d' : TypeDesc} (ht : P.underlying t=some (.slice E)) (ht' : P.underlying t' = some d') (hd' : ∀ q,d' ≠ .int q) (hE : ElemOk P E k bytes z)
    {v x : Value} {n m : Nat} {xs news : List Value} (hv : Own w E k v n xs) (hx : Src w k x m news) (h1 : ∀ u ∈ news,u.oneCell' = true) (hb : (n + m) * bytes ≤ 140737488355328) (h63 : n + m ≤ maxLen) :
    ∃ v' w',(Builtin.append_ #[t,t'] ty #[v,x]).run P w=.ok v' w' ∧ Own w' E k v' (n + m) (xs ++ news) ∧ Chg (Zap v) w w' ∧ (Zap v' = Zap v ∨ ∃ b,Zap v' = [b] ∧ w.heap.size ≤ b) ∧ (v' = .slice none 0 0 ↔ v=.slice none 0 0 ∧ m=0):=by
  obtain⟨hsz,hz0,hby,hzl,hk⟩:=hE;have hI : (match d' with | .int _=>true | _=>false)=false:=by cases d' <;> first | rfl | exact absurd rfl (hd' _)
  obtain⟨i,hi,hi1⟩ : ∃ i,P.info? E=some i ∧ i.size=k:=by
    unfold Xb at hsz;cases hq : P.info? E with
    | none=>simp [hq] at hsz
    | some i=>exact⟨i,rfl,by simpa [hq] using hsz⟩
  have hby' : i.bytes=bytes:=by simpa [hi] using hby
  obtain⟨zv,hzv,hzc⟩ : ∃ zv,i.zero=some zv ∧ zv.cells=z.toArray:=by
    unfold Tw at hz0;simp [hi] at hz0;obtain⟨zv,h1,h2⟩:=hz0;exact⟨zv,h1,by rw [← h2]⟩
  have hlen:=hx.len;have hwr : (xs ++ news).length=(n + m) * k:=by rw [List.length_append,hv.len,hlen,Nat.add_mul]
  have hlo:=fun w'=>Src.lenOf (P:=P) hx w'
  have grown : ∀ (old : Nat) (A : Option Addr),v=.slice A n old → (A=none → n=0 ∧ xs=[]) → old < n + m →
      (∀ w' : World,(∀ a,w'.cell? a=w.cell? a) → (Builtin.firstCells k n v).run P w' = .ok xs.toArray w') →
      ∃ v' w',(Builtin.append_ #[t,t'] ty #[v,x]).run P w=.ok v' w' ∧ Own w' E k v' (n + m) (xs ++ news) ∧ Chg (Zap v) w w' ∧ (Zap v' = Zap v ∨ ∃ b,Zap v' = [b] ∧ w.heap.size ≤ b) ∧ v' ≠ .slice none 0 0:=by
    intro old A hvA hA hold hfo;have hge:=grownCap_ge w (n + m) old E;have hcm : grownCap w (n + m) old E ≤ maxLen:=grownCap_le_maxLen w (n + m) old E h63;have hfit:=growslice_fits hold hb;have hsmall : n + m ≤ 9223372036854775807:=by simp only [maxLen] at h63;omega
    have h63' : ¬ (((n + m : Nat) : Int) > IntKind.i64.max ∧ (false=true ∨ i.bytes=0)):=by
      have : IntKind.i64.max=9223372036854775807:=by decide
      omega
    have hnew:=fun (w' : World) he=>Src.first (P:=P) hx (w':=w') he
    refine⟨.slice (some ⟨w.heap.size,0,none⟩) (n + m) (grownCap w (n + m) old E),w.drew.alloc (.cells (xs.toArray ++ news.toArray ++ Builtin.zeroCells zv.cells (grownCap w (n + m) old E - (n + m))) E),?_,?_,?_,?_,by simp⟩
    · have e1 : ¬ (n + m ≤ old):=by omega
      have e2 : ¬ (Builtin.nextslicecap (n + m) old * i.bytes > 2 ^ 48):=by rw [hby'];omega
      have f1:=hfo w.drew (fun a=>rfl);have f2:=hnew w.drew (fun a=>rfl);have e3 : ¬ (281474976710656 < Builtin.nextslicecap (n + m) old * bytes):=by omega
      have e4 : ¬ ((9223372036854775807 : Int) < (n : Int) + (m : Int)):=by omega
      subst hvA;simp [Builtin.append_,run_underlying ht,run_underlying ht',hI,sizeOf,typeInfo,zeroValue,hi,hi1,hzv,hby',hlo,e1,e3,e4,Question.forced,f1,f2,newRow,grownCap];rw [app3]
    · refine .inr ⟨w.heap.size,grownCap w (n + m) old E,xs ++ news ++ (Builtin.zeroCells zv.cells (grownCap w (n + m) old E - (n + m))).toList,rfl,?_,hge,hcm,?_,hwr,?_⟩
      · refine⟨(0,0),?_,fun j _ _=>Nat.zero_le j⟩;have:=heap_alloc_new w.drew (.cells (xs.toArray ++ news.toArray ++ Builtin.zeroCells zv.cells (grownCap w (n + m) old E - (n + m))) E);have hs : w.drew.heap.size=w.heap.size:=rfl;rw [hs] at this;rw [this]
        congr 2
        apply Array.ext';simp
      · rw [List.length_append,hwr,Array.length_toList,Zlo,hzc];simp only [List.size_toArray,hzl,← Nat.add_mul]
        congr 1
        omega
      · rw [← hwr];exact List.take_left
    · exact⟨rfl,rfl,rfl,by simp,fun q hq _=>heap_alloc_old w.drew _ hq⟩
    · exact .inr ⟨w.heap.size,rfl,Nat.le_refl _⟩
  rcases hv with ⟨rfl,rfl,rfl⟩ | ⟨b,cap,cs,rfl,h2,h3,h4,h5,h6,h7⟩
  · by_cases hm : m=0
    · subst hm;have hn0 : news=[]:=List.eq_nil_of_length_eq_zero (by simpa using hlen);subst hn0;have f:=Src.first (P:=P) hx (w':=w) (fun a=>rfl);refine⟨.slice none 0 0,w,?_,by simpa using Own.nil w E k,Chg.refl _ _,.inl rfl,by simp⟩;simp [Builtin.append_,run_underlying ht,run_underlying ht',hI,sizeOf,typeInfo,hi,hi1,hlo,f]
    · obtain⟨v',w',a1,a2,a3,a4,a5⟩:=grown 0 none rfl (fun _=>⟨rfl,rfl⟩) (by omega) (fun w' _=>by simp [Builtin.firstCells]);exact⟨v',w',a1,a2,a3,a4,⟨fun h=>absurd h a5,fun h=>absurd h.2 hm⟩⟩
  · by_cases hroom : n + m ≤ cap
    · have hcap : n * k + m * k ≤ cap * k:=by rw [← Nat.add_mul];exact Nat.mul_le_mul_right _ hroom
      obtain⟨w',hr,hb',hch,hsz'⟩:=Zbs P w b E news 0 (n * k) cs h2 (by omega) h1;have f:=Src.first (P:=P) hx (w':=w) (fun a=>rfl);refine⟨.slice (some ⟨b,0,none⟩) (n + m) cap,w',?_,.inr ⟨b,cap,_,rfl,hb',hroom,h4,?_,hwr,?_⟩,hch,.inl rfl,by simp⟩
      · simp [Builtin.append_,run_underlying ht,run_underlying ht',hI,sizeOf,typeInfo,hi,hi1,hlo,hroom,f,Yx,hr]
      · simp only [Nat.add_zero,List.length_append,List.length_take,List.length_drop];omega
      · have hx7 : cs.take (n * k + 0)=xs:=by simpa using h7
        rw [hx7,← hwr];exact List.take_left
    · obtain⟨v',w',a1,a2,a3,a4,a5⟩:=grown cap (some ⟨b,0,none⟩) rfl (by simp) (by omega) (fun w' he=>by
        refine run_firstCells_some (P:=P) w' k n ⟨b,0,none⟩ n cap xs h6 (fun j u hu=>?_);rw [he,Yx,h2.cell];rw [← h7,List.getElem?_take] at hu;split at hu
        · exact hu
        · cases hu)
      exact⟨v',w',a1,a2,a3,a4,⟨fun h=>absurd h a5,fun h=>by cases h.1⟩⟩
end
end Go.Proofs.YtjekfpnpfllaoaaGreatDoor
set_option linter.unusedVariables false
set_option linter.unusedSimpArgs false
set_option linter.unusedSectionVars false
namespace Go.Proofs.YtjekfpnpfllaoaaGreatDoor
open Go Go.RowKit
section
variable {P : Program} {a : Act} {n : Nat} {l : List (Nat × Option Value)} {w : World}
def Zi1 (P : Program) (l : List (Nat × Option Value)) (w : World) : List ResultVar → List Value → Prop
  | [],[]=>True
  | .tmp t :: rs,v :: vs=>lk l t=some v ∧ Zi1 P l w rs vs
  | .cell t T :: rs,v :: vs=>(∃ ad,lk l t=some (.pointer (some ad)) ∧ Ld P T w ad v) ∧ Zi1 P l w rs vs
  | _,_=>False
theorem Yk : Zi1 P l w [] []:=trivial
theorem Zdk {t : Nat} {rs : List ResultVar} {v : Value} {vs : List Value} (h1 : lk l t=some v) (h2 : Zi1 P l w rs vs) : Zi1 P l w (.tmp t :: rs) (v :: vs):=⟨h1,h2⟩
theorem Xq {t T : Nat} {ad : Addr} {rs : List ResultVar} {v : Value} {vs : List Value} (h1 : lk l t=some (.pointer (some ad))) (h : LdX P T w ad v) (h2 : Zi1 P l w rs vs) : Zi1 P l w (.cell t T :: rs) (v :: vs):=⟨⟨ad,h1,h w Ext.rfl'⟩,h2⟩
def resG (tm : Array Value) : ResultVar → Sem Value
  | .tmp t=>pure (tm.getD t undef)
  | .cell ad t=>do loadVar t (← asAddr (tm.getD ad undef))
theorem Zjh (H : Has a n l) : ∀ (rs : List ResultVar) (vs : List Value),Zi1 P l w rs vs → (rs.mapM (resG a.tmps)).run P w=.ok vs w
  | [],[],_=>by simp
  | [],_ :: _,h=>by simp [Zi1] at h
  | .tmp t :: rs,[],h=>by simp [Zi1] at h
  | .cell t T :: rs,[],h=>by simp [Zi1] at h
  | .tmp t :: rs,v :: vs,h=>by
    have ih:=Zjh H rs vs h.2;have:=H.val t v h.1;have h1 : (resG a.tmps (.tmp t)).run P w=.ok v w:=by simp [resG,this]
    simp [List.mapM_cons,h1,ih]
  | .cell t T :: rs,v :: vs,h=>by
    have ih:=Zjh H rs vs h.2;obtain⟨ad,h1,h2⟩:=h.1;have:=H.val t _ h1;unfold Ld at h2;have h3 : (resG a.tmps (.cell t T)).run P w=.ok v w:=by
      have h4 : a.tmps.getD t undef=.pointer (some ad):=by simp [this]
      simp only [resG,h4,show asAddr (.pointer (some ad))=pure ad from rfl,Sem.run_bind,Sem.run_pure,Result.andThen_ok,h2]
    simp [List.mapM_cons,h3,ih]
def tup : List Value → Value
  | [v]=>v
  | vs=>.tuple vs.toArray
theorem Zfw {fn : Func} {Φ : Value → World → Prop} {e : Exit} {rs : List ResultVar} {vs : List Value} (H : Has a n l) (he : e=.normal ∨ e=.ret) (hr : fn.results=rs.toArray) (hv : Zi1 P l w rs vs) (h : Φ (tup vs) w) : bodyPost P fn (Ret Φ) e a w:=by
  have hm:=Zjh H rs vs hv;have hres : (results fn a.tmps).run P w=.ok (tup vs) w:=by
    show (do
      let vs ← fn.results.mapM (resG a.tmps)
      pure (if h : vs.size=1 then vs[0] else .tuple vs) : Sem Value).run P w=_
    rw [hr,Array.mapM_eq_mapM_toList];simp only [List.toList_toArray,Sem.run_bind,Sem.run_map,hm,Result.andThen_ok,Sem.run_pure]
    match vs with
    | []=>simp [tup]
    | [v]=>simp [tup]
    | v :: v2 :: vs=>simp [tup]
  rcases he with rfl|rfl <;> exact⟨H.defers,_,hres,_,rfl,h⟩
end
section
variable {P : Program} {ops : Array Oper} {Q : Exit → Act → World → Prop} {rest : List Oper} {a : Act} {n : Nat} {l : List (Nat × Option Value)} {w : World}
  {op : Op} {ty : TypeId} {pos : String} {af : Array Edge} {d : Nat} {v : Value}
theorem SlR.src {α : Type} {enc : α → List Value} {k : Nat} {v : Value} {xs : List α} (h : SlR w k (Qs enc) v xs) (hk : ∀ x ∈ xs,(enc x).length=k) : Src w k v xs.length (xs.flatMap enc):=by
  obtain⟨A,c,rfl,h2,h3,h4,h5⟩:=h;cases A with
  | none=>
    obtain⟨rfl,rfl⟩:=h4 rfl;exact .inl ⟨0,rfl,rfl,rfl⟩
  | some ad=>
    refine .inr (.inl ⟨ad,c,rfl,?_,?_⟩)
    · clear h2 h3 h4 h5
      induction xs with
      | nil=>simp
      | cons x xs ih=>
        simp only [List.flatMap_cons,List.length_append,List.length_cons];rw [hk x List.mem_cons_self,ih fun y hy=>hk y (List.mem_cons_of_mem _ hy),Nat.add_mul];omega
    · have h5':=h5 ad rfl;clear h5 h2 h3 h4;have key : ∀ (ys : List α) (o : Nat),(∀ y ∈ ys,(enc y).length=k) → (∀ i x,ys[i]? = some x → ∀ j u,(enc x)[j]? = some u → w.cell? (ad.add (o + (i * k + j)))=some u) →
          ∀ j u,(ys.flatMap enc)[j]? = some u → w.cell? (ad.add (o + j))=some u:=by
        intro ys
        induction ys with
        | nil=>intro o _ _ j u hu;simp at hu
        | cons y ys ih=>
          intro o hl hc j u hu;have hy:=hl y List.mem_cons_self;simp only [List.flatMap_cons] at hu
          by_cases hj : j < k
          · rw [List.getElem?_append_left (by omega)] at hu;have:=hc 0 y rfl j u hu
            simpa using this
          · rw [List.getElem?_append_right (by omega),hy] at hu;have:=ih (o + k) (fun z hz=>hl z (List.mem_cons_of_mem _ hz)) (fun i x hx j u hu=>by
              have:=hc (i + 1) x hx j u hu;rw [show o + k + (i * k + j)=o + ((i + 1) * k + j) by rw [Nat.add_mul];omega];exact this) (j - k) u hu
            rwa [show o + k + (j - k)=o + j by omega] at this
      intro j u hu;have:=key xs 0 hk (fun i x hx j u hu=>by
        obtain⟨cs,g1,g2,g3⟩:=h5' i x hx;have g2' : cs=enc x:=g2;subst g2';rw [Nat.zero_add];exact g3 j u hu) j u hu
      rwa [Nat.zero_add] at this
theorem Src.ext {w' : World} {k : Nat} {x : Value} {m : Nat} {news : List Value} (h : Src w k x m news) (e : Ext w w') : Src w' k x m news:=by
  rcases h with h | ⟨ad,c,h1,h2,h3⟩|h
  · exact .inl h
  · exact .inr (.inl ⟨ad,c,h1,h2,fun j u hu=>Zhq (h3 j u hu) e⟩)
  · exact .inr (.inr h)
theorem Zo8 {x y : Operand} {t t' E k bytes : Nat} {z : List Value} {d' : TypeDesc} {u : Value} {m0 m : Nat} {xs news : List Value} (H : Has a n l) (ex : lo l x=some v) (ey : lo l y=some u)
    (ht : P.underlying t=some (.slice E)) (ht' : P.underlying t' = some d') (hd' : ∀ q,d' ≠ .int q) (hE : ElemOk P E k bytes z) (hv : Own w E k v m0 xs) (hx : Src w k u m news) (h1 : ∀ u ∈ news,u.oneCell' = true)
    (hb : (m0 + m) * bytes ≤ 140737488355328) (h63 : m0 + m ≤ maxLen) (hd : Nat.blt d n=true)
    (h : ∀ v' w',Own w' E k v' (m0 + m) (xs ++ news) → Chg (Zap v) w w' → (Zap v' = Zap v ∨ ∃ b,Zap v' = [b] ∧ w.heap.size ≤ b) → (v' = .slice none 0 0 ↔ v=.slice none 0 0 ∧ m=0) →
      ∀ a',Has a' n ((d,some v') :: l) → wpList P ops Q rest a' w') :
    wpList P ops Q (⟨some d,.call { callee:=.builtin .append,args:=#[x,y],argTypes:=#[t,t'] },ty,pos,af,none⟩ :: rest) a w:=by
  obtain⟨v',w',hr,h2,h3,h4,h5⟩:=Zk7 (ty:=ty) ht ht' hd' hE hv hx h1 hb h63;exact Zn7 (w':=w') H (fun ρ hρ=>by simp [execOp,resolve,invoke,builtin,hρ x _ ex,hρ y _ ey,hr]) hd (h v' w' h2 h3 h4 h5)
def loP (L : Operand → Option Value) : List (Nat × Operand) → Option (List (Nat × Value))
  | []=>some []
  | p :: ps=>match L p.2,loP L ps with
    | some v,some vs=>some ((p.1,v) :: vs)
    | _,_=>none
theorem Zlp {L : Operand → Option Value} {ρ : Operand → Value} (h : ∀ x u,L x=some u → ρ x=u) : ∀ (ps : List (Nat × Operand)) (vs : List (Nat × Value)),loP L ps=some vs → (ps.map fun p=>(p.1,ρ p.2))=vs
  | [],vs,e=>by simp [loP] at e;simp [← e]
  | p :: ps,vs,e=>by
    simp only [loP] at e;split at e
    · rename_i v vs' h1 h2
      cases e
      simp [h _ v h1,Zlp h ps vs' h2]
    · cases e
def Zcr (P : Program) (t : TypeId) : Option (Array (Nat × Nat)):=
  match P.underlying t with
  | some (.struct fs)=>some (fs.map fun f=>(f.offset,((P.info? f.type).map (·.size)).getD 0))
  | _=>none
def Zo9 (P : Program) (fs : Array Field) : Bool:=fs.all fun f=>(P.info? f.type).isSome
def bdB (P : Program) (t : TypeId) : Bool:=
  match P.underlying t with
  | some (.struct fs)=>Zo9 P fs
  | _=>false
theorem Zk8 {P : Program} (w : World) : ∀ (fs : List Field),(fs.all fun f=>(P.info? f.type).isSome)=true →
    (fs.mapM (m:=Sem) fun f=>do pure (f.offset,← sizeOf f.type)).run P w=.ok (fs.map fun f=>(f.offset,((P.info? f.type).map (·.size)).getD 0)) w
  | [],_=>by simp
  | f :: fs,h=>by
    simp only [List.all_cons,Bool.and_eq_true] at h;have ih:=Zk8 w fs h.2;obtain⟨i,hi⟩:=Option.isSome_iff_exists.1 h.1;have hs : (sizeOf f.type).run P w=.ok i.size w:=by simp [sizeOf,typeInfo,hi]
    simp only [List.mapM_cons,Sem.run_bind,hs,Result.andThen_ok,Sem.run_pure,ih];simp [hi]
theorem Zhu {t : TypeId} {cs : List Value} (hz : Tw P t=some cs) (w : World) : ∃ z,(zeroValue t).run P w=.ok z w ∧ z.cells=cs.toArray:=by
  unfold Tw at hz;cases hi : P.info? t with
  | none=>simp [hi] at hz
  | some i=>
    cases hzz : i.zero with
    | none=>simp [hi,hzz] at hz
    | some z=>
      simp [hi,hzz] at hz;exact⟨z,by simp [zeroValue,typeInfo,hi,hzz],by rw [← hz]⟩
theorem Kn {L : Operand → Option Value} {C : World → Prop} {t : TypeId} {ps : List (Nat × Operand)} {vs : List (Nat × Value)} {zs cs : List Value} {pl : Array (Nat × Nat)} (hz : Tw P t=some zs) (hb : bdB P t=true) (hpl : Zcr P t=some pl)
    (e : loP L ps=some vs) (hf : Instr.fill (fun i=>pl[i]?) zs.toArray vs=some cs.toArray) : Q1 P L (.build t ps.toArray) C (.agg cs.toArray):=
  fun ρ h w' _ dst ty pos af g=>by
    obtain⟨z,hr,hzc⟩:=Zhu hz w';have hp:=Zlp h ps vs e;unfold bdB at hb;unfold Zcr at hpl;cases hu : P.underlying t with
    | none=>simp [hu] at hb
    | some dsc=>
      cases dsc with
      | struct fs=>
        simp only [hu] at hb hpl;have hpls:=Zk8 w' fs.toList (by simpa [Zo9] using hb);have hrun : (Instr.build t (ps.toArray.map fun p=>(p.1,ρ p.2))).run P w' = .ok (.agg cs.toArray) w':=by
          unfold Instr.build;simp only [Sem.run_bind,hr,Result.andThen_ok,Sem.run_pure,run_underlying hu];rw [Array.mapM_eq_mapM_toList];simp only [Sem.run_map,hpls,Result.andThen_ok];have e1 : (fs.toList.map fun f=>(f.offset,((P.info? f.type).map (·.size)).getD 0)).toArray=pl:=by
            have:=Option.some.inj hpl;rw [← this];apply Array.ext';simp
          rw [e1];have e2 : (ps.toArray.map fun p=>(p.1,ρ p.2)).toList=vs:=by simp [hp]
          rw [e2,hzc,hf];simp
        show (do let x ← Instr.build t (ps.toArray.map fun p=>(p.1,ρ p.2));pure (.value x) : Sem Next).run P w' = _;rw [Sem.run_bind,hrun];simp
      | _=>simp [hu] at hb
theorem Zuc {zs : List Value} {k : Nat} (hk : zs.length=k) : ∀ (len i : Nat),i < len * k → ((List.replicate len zs).flatten)[i]? = zs[i % k]?
  | 0,i,h=>by simp at h
  | len + 1,i,h=>by
    rw [List.replicate_succ,List.flatten_cons];rw [Nat.add_mul] at h
    by_cases hi : i < k
    · rw [List.getElem?_append_left (by omega),Nat.mod_eq_of_lt hi]
    · rw [List.getElem?_append_right (by omega),hk,Zuc hk len (i - k) (by omega),show i % k=(i - k) % k from Nat.mod_eq_sub_mod (by omega)]
theorem Zqx {zs : List Value} {k : Nat} (hk : zs.length=k) : ∀ len,((List.replicate len zs).flatten).length=len * k
  | 0=>by simp
  | len + 1=>by rw [List.replicate_succ,List.flatten_cons,List.length_append,hk,Zqx hk len,Nat.add_mul];omega
theorem Zsw {zs : List Value} {k : Nat} (hk : zs.length=k) (len : Nat) : (Array.range (len * k)).map (zs.toArray[· % zs.toArray.size]!)=((List.replicate len zs).flatten).toArray:=by
  apply Array.ext';simp only [Array.toList_map,Array.toList_range,List.size_toArray,hk];apply List.ext_getElem?;intro i
  by_cases hi : i < len * k
  · have hk0 : 0 < k:=by
      rcases Nat.eq_zero_or_pos k with h|h
      · rw [h] at hi;simp at hi
      · exact h
    have hm : i % k < zs.length:=by rw [hk];exact Nat.mod_lt _ hk0
    rw [Zuc hk len i hi,List.getElem?_map,List.getElem?_range hi];simp [getElem!_pos,hm]
  · rw [List.getElem?_eq_none (by simp;omega),List.getElem?_eq_none (by rw [Zqx hk];omega)]
theorem Zqy {T E k len : Nat} {L : Operand → Option Value} {ps : List (Nat × Operand)} {vs : List (Nat × Value)} {zs cs : List Value} {dst : Option Nat} {g : Option (Nat × Bool)} (ht : P.underlying T=some (.slice E)) (hk : Xb P E=some k) (hz : Tw P E=some zs) (hle : Nat.ble (len * k) 16777216=true)
    (hzl : zs.length=k) (e : loP L ps=some vs) (hf' : Instr.fill (fun i=>some (i * k,k)) ((List.replicate len zs).flatten).toArray vs=some cs.toArray) (ρ : Operand → Value) (hρ : ∀ x u,L x=some u → ρ x=u) :
    (execOp ρ ⟨dst,.buildSlice T len ps.toArray,ty,pos,af,g⟩).run P w=.ok (.value (.slice (some ⟨w.heap.size,0,none⟩) len len)) (w.alloc (.cells cs.toArray E)):=by
  have hf:=hf';rw [← Zsw hzl len] at hf;obtain⟨z,hr,hzc⟩:=Zhu hz w;have hp:=Zlp hρ ps vs e;have hle':=Nat.le_of_ble_eq_true hle;have hrun : (Instr.buildSlice T len (ps.toArray.map fun p=>(p.1,ρ p.2))).run P w=.ok (.slice (some ⟨w.heap.size,0,none⟩) len len) (w.alloc (.cells cs.toArray E)):=by
    have e2 : (ps.toArray.map fun p=>(p.1,ρ p.2)).toList=vs:=by simp [hp]
    unfold Instr.buildSlice;simp only [Sem.run_bind,run_underlying ht,Result.andThen_ok,Hd hk,Sem.run_pure,e2];rw [if_neg (by omega)]
    by_cases h0 : len * k=0
    · have z0 : ∀ f : Nat → Value,(Array.range (len * k)).map f = #[]:=fun f=>by simp [h0]
      have hf0 : Instr.fill (fun i=>some (i * k,k)) #[] vs=some cs.toArray:=by
        rw [z0] at hf;exact hf
      rw [if_pos h0];simp only [Sem.run_bind,Sem.run_pure,Result.andThen_ok,z0,hf0];simp [newRow]
    · simp only [h0,if_false,Sem.run_bind,hr,hzc,Result.andThen_ok,Sem.run_pure,hf];simp [newRow]
  show (do let x ← Instr.buildSlice T len (ps.toArray.map fun p=>(p.1,ρ p.2));pure (.value x) : Sem Next).run P w=_;rw [Sem.run_bind,hrun];simp
theorem Qf {T E k len : Nat} {ps : List (Nat × Operand)} {vs : List (Nat × Value)} {zs cs : List Value} (H : Has a n l) (ht : P.underlying T=some (.slice E)) (hk : Xb P E=some k) (hz : Tw P E=some zs) (hle : Nat.ble (len * k) 16777216=true)
    (hzl : zs.length=k) (e : loP (lo l) ps=some vs) (hf : Instr.fill (fun i=>some (i * k,k)) ((List.replicate len zs).flatten).toArray vs=some cs.toArray) (hd : Nat.blt d n=true)
    (h : ∀ b w',Blk w' b cs E → Ext w w' → w.heap.size=b → ∀ a',Has a' n ((d,some (.slice (some ⟨b,0,none⟩) len len)) :: l) → wpList P ops Q rest a' w') :
    wpList P ops Q (⟨some d,.buildSlice T len ps.toArray,ty,pos,af,none⟩ :: rest) a w:=
  Zn7 (w':=w.alloc (.cells cs.toArray E)) H (fun ρ hρ=>Zqy ht hk hz hle hzl e hf ρ hρ) hd (h w.heap.size _ (Blk.new w cs E) (Ext.alloc' _ _) rfl)
@[simp] theorem one_int (k : IntKind) (z : Int) : (Value.int k z).oneCell' = true:=rfl
@[simp] theorem one_bool (b : Bool) : (Value.bool b).oneCell' = true:=rfl
@[simp] theorem one_string (s : ByteArray) : (Value.string s).oneCell' = true:=rfl
@[simp] theorem one_slice (A : Option Addr) (n c : Nat) : (Value.slice A n c).oneCell' = true:=rfl
@[simp] theorem one_pointer (A : Option Addr) : (Value.pointer A).oneCell' = true:=rfl
@[simp] theorem one_map (A : Option Nat) : (Value.map A).oneCell' = true:=rfl
@[simp] theorem one_nilI : Value.nilIface.oneCell' = true:=rfl
@[simp] theorem one_iface (t : TypeId) (v : Value) : (Value.iface t v).oneCell' = true:=rfl
@[simp] theorem one_nilF : Value.nilFunc.oneCell' = true:=rfl
theorem Zv {x y : Operand} {t T : TypeId} {b : Nat} {u : Value} {vs cs : List Value} (H : Has a n l) (ex : lo l x=some (.pointer (some ⟨b,0,none⟩))) (ey : lo l y=some u) (hc : u.cells=vs.toArray) (hs : Xb P t=some vs.length)
    (hb : Blk w b cs T) (hl : vs.length=cs.length) (h1 : ∀ u ∈ vs,u.oneCell' = true)
    (h : ∀ w',Blk w' b vs T → Chg [b] w w' → w'.heap.size=w.heap.size → ∀ a',Has a' n l → wpList P ops Q rest a' w') :
    wpList P ops Q (⟨none,.store t x y,ty,pos,af,none⟩ :: rest) a w:=
  Zqq H ex ey hc hs hb (by omega) h1 fun w' hb' hch hsz a' H'=>by
    have e : cs.take 0 ++ vs ++ cs.drop (0 + vs.length)=vs:=by rw [List.take_zero,List.nil_append,Nat.zero_add,hl,List.drop_length,List.append_nil]
    rw [e] at hb';exact h w' hb' hch hsz a' H'
theorem Zji {v : Value} (h : v.oneCell' = true) : v.cells = #[v]:=by cases v <;> first | rfl | (simp [Value.oneCell'] at h)
theorem Zqz {cs : List Value} {o : Nat} {v : Value} (h : o < cs.length) : cs.take o ++ [v] ++ cs.drop (o + 1)=cs.set o v:=by
  rw [List.set_eq_take_append_cons_drop,if_pos h];simp
theorem Jb {x y : Operand} {t T : TypeId} {b o : Nat} {u : Value} {cs : List Value} (H : Has a n l) (ex : lo l x=some (.pointer (some ⟨b,o,none⟩))) (ey : lo l y=some u) (hs : Xb P t=some 1)
    (hb : Blk w b cs T) (hl : o < cs.length) (h1 : u.oneCell' = true)
    (h : ∀ w',Blk w' b (cs.set o u) T → Chg [b] w w' → w'.heap.size=w.heap.size → ∀ a',Has a' n l → wpList P ops Q rest a' w') :
    wpList P ops Q (⟨none,.store t x y,ty,pos,af,none⟩ :: rest) a w:=
  Zqq (vs:=[u]) H ex ey (Zji h1) hs hb (by simp only [List.length_cons,List.length_nil];omega) (by simpa using h1) fun w' hb' hch hsz a' H'=>by
    have e : cs.take o ++ [u] ++ cs.drop (o + [u].length)=cs.set o u:=Zqz hl;rw [e] at hb';exact h w' hb' hch hsz a' H'
theorem SlR.one {α : Type} {k : Nat} {R : World → List Value → α → Prop} {v : Value} {xs : List α} (h : SlR w k R v xs) : v.oneCell' = true:=by
  obtain⟨A,c,rfl,_⟩:=h;rfl
theorem Own.one {E k : Nat} {v : Value} {n : Nat} {xs : List Value} (h : Own w E k v n xs) : v.oneCell' = true:=by
  obtain⟨A,c,rfl,_⟩:=h.form;rfl
def fdB (P : Program) (t k : Nat) : Option (Bool × Nat × Nat):=
  match P.underlying t with
  | some (.struct fs)=>match fs[k]? with
    | some f=>match Ty P f.type,Xb P f.type with
      | some b,some n=>some (b,f.offset,n)
      | _,_=>none
    | none=>none
  | _=>none
theorem Zsx {L : Operand → Option Value} {C : World → Prop} {x : Operand} {t k off sz : Nat} {cs : Array Value} {v : Value} (h : fdB P t k=some (false,off,sz)) (ex : L x=some (.agg cs)) (hv : cs[off]? = some v) : Q1 P L (.field t x k) C v:=
  fun ρ hρ w' _ dst ty pos af g=>by
    unfold fdB at h;cases hu : P.underlying t with
    | none=>simp [hu] at h
    | some dsc=>
      cases dsc with
      | struct fs=>
        simp only [hu] at h;cases hf : fs[k]? with
        | none=>simp [hf] at h
        | some f=>
          simp only [hf] at h;cases ha : Ty P f.type with
          | none=>simp [ha] at h
          | some b=>
            cases hs : Xb P f.type with
            | none=>simp [ha,hs] at h
            | some q=>
              simp only [ha,hs,Option.some.injEq,Prod.mk.injEq] at h;obtain⟨rfl,rfl,rfl⟩:=h;simp [execOp,hρ x _ ex,Instr.field,run_underlying hu,hf,asAgg,part,Zf5 ha,hv]
      | _=>simp [hu] at h
def eB (b : UInt8) : List Value:=[.int .u8 (b.toNat : Int)]
theorem Zq0 {L : Operand → Option Value} {C : World → Prop} {x y : Operand} {k k' : IntKind} {p q : Int} {tys : Array TypeId} (ex : L x=some (.int k p)) (ey : L y=some (.int k' q)) : Q1 P L (.call { callee:=.builtin .min,args:=#[x,y],argTypes:=tys }) C (.int k (if q < p then q else p)):=
  fun ρ h w' _ dst ty pos af g=>by simp [execOp,resolve,invoke,builtin,h x _ ex,h y _ ey,Builtin.min_,Builtin.min2]
end
end Go.Proofs.YtjekfpnpfllaoaaGreatDoor
set_option linter.unusedVariables false
set_option linter.unusedSimpArgs false
set_option linter.unusedSectionVars false
namespace Go.Proofs.YtjekfpnpfllaoaaGreatDoor
open Go Go.RowKit
section
variable {P : Program} {ops : Array Oper} {Q : Exit → Act → World → Prop} {k0 : Nat} {S : World → Prop}
def act (k0 : Nat) (li : Array Bool) : Bool:=!(li.getD k0 false)
def wpK (P : Program) (ops : Array Oper) (Q : Exit → Act → World → Prop) (k0 : Nat) (S : World → Prop) : Nat → Array Bool → Act → World → Prop
  | 0,listed,a,w=>Region.ready .any ops listed=[] ∧ Q .normal a w
  | fuel + 1,listed,a,w=>(Region.ready .any ops listed=[] → Q .normal a w) ∧
    ∀ i ∈ Region.ready .any ops listed,wpOp P ops Q i (fun a' w'=>(act k0 (listed.setIfInBounds i true)=true → S w') ∧ wpK P ops Q k0 S fuel (listed.setIfInBounds i true) a' w') a w
theorem Zk9 : ∀ (fuel : Nat) (listed : Array Bool) (a : Act) (w : World),wpK P ops Q k0 S fuel listed a w → wpAny P .any ops Q fuel listed a w
  | 0,_,_,_,h=>h
  | fuel + 1,_,_,_,h=>⟨h.1,fun i hi=>wpOp_mono (fun a' w' h'=>Zk9 fuel _ a' w' h'.2) (h.2 i hi)⟩
theorem Zuq {listed : Array Bool} {i : Nat} (h : act k0 (listed.setIfInBounds i true)=true) : act k0 listed=true:=by
  unfold act at *;simp only [Bool.not_eq_true'] at *
  by_cases hi : i=k0
  · subst hi
    by_cases hl : i < listed.size
    · simp [hl] at h
    · simp [Array.getElem?_eq_none (Nat.not_lt.1 hl)]
  · rwa [getD_set_ne false hi] at h
theorem Zgy {S' : World → Prop} (h : ∀ w',S' w' → S w') : ∀ (fuel : Nat) (listed : Array Bool) (a : Act) (w : World),wpK P ops Q k0 S' fuel listed a w → wpK P ops Q k0 S fuel listed a w
  | 0,_,_,_,k=>k
  | fuel + 1,_,_,_,k=>⟨k.1,fun i hi=>wpOp_mono (fun a' w' h'=>⟨fun ha=>h _ (h'.1 ha),Zgy h fuel _ a' w' h'.2⟩) (k.2 i hi)⟩
theorem Zi7 {S' : World → Prop} : ∀ (fuel : Nat) (listed : Array Bool) (a : Act) (w : World),act k0 listed=false → wpK P ops Q k0 S' fuel listed a w → wpK P ops Q k0 S fuel listed a w
  | 0,_,_,_,_,k=>k
  | fuel + 1,listed,_,_,hf,k=>⟨k.1,fun i hi=>wpOp_mono (fun a' w' h'=>by
      have hb : act k0 (listed.setIfInBounds i true)=false:=by
        cases hq : act k0 (listed.setIfInBounds i true) with
        | false=>rfl
        | true=>rw [Zuq hq] at hf;cases hf
      exact⟨fun ha=>(by rw [hb] at ha;cases ha),Zi7 fuel _ a' w' hb h'.2⟩) (k.2 i hi)⟩
def Zir (ops : Array Oper) (k0 i : Nat) : Bool:=
  match ops[k0]? with
  | none=>true
  | some o=>o.after.any fun e=>Region.binds .any e && e.on == i
theorem Zmw {i : Nat} {oi : Oper} {v : Value} (hi : ops[i]? = some oi) (hsel : ∀ (j : Nat) (o : Oper) cs b,ops[j]? = some o → o.op ≠ .select cs b)
    (hQ : ∀ c a w,Q (.panic c) (a.put oi.dst v) w → Q (.panic c) a w) (hb : Zir ops k0 i=true) (hne : i ≠ k0) :
    ∀ (fuel : Nat) (listed : Array Bool) (a : Act) (w : World),act k0 listed=true → listed.size=ops.size →
      (∀ j oj,ops[j]? = some oj → j ≠ i → listed.getD j true=false → (∀ e ∈ oj.after,Region.binds .any e=true → e.on ≠ i) → oi.apart ops oj=true) →
      i ∈ Region.ready .any ops listed → YieldsIf P ops S oi v a → S w →
      wpK P ops Q k0 S fuel (listed.setIfInBounds i true) (a.put oi.dst v) w → wpK P ops Q k0 S (fuel + 1) listed a w:=by
  intro fuel
  induction fuel with
  | zero=>
    intro listed a w hk hsz _ hr hy hS H;refine⟨fun h=>(by rw [h] at hr;cases hr),fun j hj=>?_⟩
    by_cases hji : j=i
    · subst hji;exact hy.wpOp hi hS ⟨fun _=>hS,H⟩
    · have:=ready_mono hj hji;rw [H.1] at this;cases this
  | succ fuel ih=>
    intro listed a w hk hsz hfree hr hy hS H;refine⟨fun h=>(by rw [h] at hr;cases hr),fun j hj=>?_⟩
    by_cases hji : j=i
    · subst hji;exact hy.wpOp hi hS ⟨fun _=>hS,H⟩
    · have h1:=H.2 j (ready_mono hj hji);obtain⟨hjun,oj,hoj,hall⟩:=mem_ready.1 hj;have hnot : ∀ e ∈ oj.after,Region.binds .any e=true → e.on ≠ i:=fun e he hb heq=>by
        have h1:=hall e he hb;have h0:=(mem_ready.1 hr).1;rw [heq] at h1
        rcases Nat.lt_or_ge i listed.size with h'|h'
        · simp [h'] at h0 h1;rw [h0] at h1;cases h1
        · simp [Array.getElem?_eq_none h'] at h1
      have hjk : j ≠ k0:=fun e=>by
        subst e;unfold Zir at hb;simp only [hoj,Array.any_eq_true',Bool.and_eq_true,beq_iff_eq] at hb;obtain⟨x,hx,hxb,hxi⟩:=hb;exact hnot x hx hxb hxi
      have h2:=wpOp_putIf hoj (hfree j oj hoj hji hjun hnot) (fun cs b=>hsel i oi cs b hi) (fun cs b=>hsel j oj cs b hoj) hQ hy h1;have hfree' : ∀ k ok,ops[k]? = some ok → k ≠ i → (listed.setIfInBounds j true).getD k true=false →
          (∀ e ∈ ok.after,Region.binds .any e=true → e.on ≠ i) → oi.apart ops ok=true:=fun k ok hk hki hun hno=>by
        refine hfree k ok hk hki ?_ hno
        by_cases hjk : j=k
        · subst hjk;exact hjun
        · rw [getD_set_ne true hjk] at hun;exact hun
      have hk' : act k0 (listed.setIfInBounds j true)=true:=by
        unfold act at *
        rwa [getD_set_ne false hjk]
      have hk2 : act k0 ((listed.setIfInBounds i true).setIfInBounds j true)=true:=by
        unfold act at *;rw [getD_set_ne false hjk,getD_set_ne false hne];exact hk
      refine wpOp_mono (fun a' w' h3=>⟨fun _=>h3.2.1 hk2,ih (listed.setIfInBounds j true) a' w' hk' (by simpa using hsz) hfree' (ready_mono hr (Ne.symm hji)) h3.1 (h3.2.1 hk2) ?_⟩) h2;rw [Array.setIfInBounds_comm _ _ hji];exact h3.2.2
end
structure ChgF (B : List Nat) (h0 : Nat) (w w' : World) : Prop where
  os : w'.os=w.os
  tape : w'.tape=w.tape
  output : w'.output=w.output
  size : w.heap.size ≤ w'.heap.size
  block : ∀ k,k < w.heap.size → k < h0 → k ∉ B → w'.heap[k]? = w.heap[k]?
theorem ChgF.refl (B : List Nat) (h0 : Nat) (w : World) : ChgF B h0 w w:=⟨rfl,rfl,rfl,Nat.le_refl _,fun _ _ _ _=>rfl⟩
theorem ChgF.trans {B : List Nat} {h0 : Nat} {w1 w2 w3 : World} (h : ChgF B h0 w1 w2) (k : ChgF B h0 w2 w3) : ChgF B h0 w1 w3:=
  ⟨k.os.trans h.os,k.tape.trans h.tape,k.output.trans h.output,Nat.le_trans h.size k.size,fun i hi h0 hn=>(k.block i (Nat.lt_of_lt_of_le hi h.size) h0 hn).trans (h.block i hi h0 hn)⟩
theorem ChgF.of_ext {B : List Nat} {h0 : Nat} {w w' : World} (e : Ext w w') : ChgF B h0 w w':=⟨e.os,e.tape,e.output,e.size,fun k hk _ _=>e.block k hk⟩
theorem ChgF.of {B S : List Nat} {h0 : Nat} {w w' : World} (h : Chg S w w') (hs : ∀ k ∈ S,k < h0 → k ∈ B) : ChgF B h0 w w':=
  ⟨h.os,h.tape,h.output,h.size,fun k hk h0 hn=>h.block k hk fun hm=>hn (hs k hm h0)⟩
section
variable {P : Program} {ops : Array Oper} {Q : Exit → Act → World → Prop} {a : Act} {n : Nat} {l : List (Nat × Option Value)} {w : World} {B : List Nat} {k0 h0 : Nat}
  {op : Op} {ty : TypeId} {pos : String} {af : Array Edge} {d fuel : Nat} {v : Value} {listed : Array Bool}
theorem Zcs (B : List Nat) (k0 : Nat) {id : Nat} (hm : P.follows .mixedOrders=true) (h : wpK P ops Q k0 (ChgF B w.drew.heap.size w.drew) ops.size (Array.replicate ops.size false) a w.drew) : (Code.region id ops true).wp P Q a w:=
  wp_region_any hm (Zk9 _ _ _ _ h)
theorem Zud (i : Nat) (H : Has a n l) (hi : ops[i]? = some ⟨some d,op,ty,pos,af,none⟩) (q : Q1 P (lo l) op (ChgF B h0 w) v) (hd : Nat.blt d n=true) (hs : Region.noSelect ops=true) (hf : Region.free .any ops listed i=true)
    (hr : (Region.ready .any ops listed).contains i=true) (hb : (Zir ops k0 i && !(Nat.beq i k0) && act k0 listed && (Nat.beq listed.size ops.size))=true) (hQ : ∀ c a w,Q (.panic c) (a.put (some d) v) w → Q (.panic c) a w)
    (h : ∀ a',Has a' n ((d,some v) :: l) → wpK P ops Q k0 (ChgF B h0 w) fuel (listed.setIfInBounds i true) a' w) : wpK P ops Q k0 (ChgF B h0 w) (fuel + 1) listed a w:=by
  simp only [Bool.and_eq_true,Bool.not_eq_true'] at hb;obtain⟨⟨⟨h1,h2⟩,h3⟩,h4⟩:=hb;exact Zmw (oi:=⟨some d,op,ty,pos,af,none⟩) (v:=v) hi (Region.noSelect_spec hs) hQ h1 (fun e=>by rw [e,Nat.beq_refl] at h2;cases h2) fuel listed a w h3 (Nat.eq_of_beq_eq_true h4) (Region.free_spec hi hf) (by simpa using hr)
    (.inl ⟨by simp [Region.wanted],fun w' hw=>q a.eval H.eval w' hw (some d) ty pos af none⟩) (ChgF.refl _ _ _) (h _ (H.put d v hd))
theorem Vt (hr : Region.ready .any ops listed=[]) (h : Q .normal a w) : wpK P ops Q k0 (ChgF B h0 w) fuel listed a w:=by
  cases fuel with
  | zero=>exact⟨hr,h⟩
  | succ fuel=>exact⟨fun _=>h,by rw [hr];simp⟩
def Go' (B : List Nat) (k0 h0 : Nat) (listed : Array Bool) (w w' : World) : Prop:=ChgF B h0 w w' ∨ act k0 listed=false
theorem k_one (i : Nat) {o : Oper} (hi : ops[i]? = some o) (hg : o.guard=none) (hr : Region.ready .any ops listed=[i])
    (h : o.wp P a w (fun a' w'=>Go' B k0 h0 (listed.setIfInBounds i true) w w' ∧ wpK P ops Q k0 (ChgF B h0 w') fuel (listed.setIfInBounds i true) a' w') Q) : wpK P ops Q k0 (ChgF B h0 w) (fuel + 1) listed a w:=by
  refine⟨fun h0=>(by rw [h0] at hr;cases hr),fun j hj=>?_⟩;rw [hr] at hj;have:=List.mem_singleton.1 hj;subst this;unfold wpOp;simp only [hi];rw [if_pos (by simp [Region.wanted,hg])];refine .inl (Oper.wp_mono (fun a' w' h'=>?_) h)
  rcases h'.1 with hc|hn
  · exact⟨fun _=>hc,Zgy (fun w'' hw=>hc.trans hw) _ _ _ _ h'.2⟩
  · exact⟨fun ha=>(by rw [hn] at ha;cases ha),Zi7 _ _ _ _ hn h'.2⟩
theorem Zsy (i : Nat) {w' : World} (H : Has a n l) (hi : ops[i]? = some ⟨some d,op,ty,pos,af,none⟩) (hrun : ∀ ρ : Operand → Value,(∀ x u,lo l x=some u → ρ x=u) → (execOp ρ ⟨some d,op,ty,pos,af,none⟩).run P w=.ok (.value v) w')
    (hd : Nat.blt d n=true) (hr : Region.ready .any ops listed=[i]) (hc : Go' B k0 h0 (listed.setIfInBounds i true) w w')
    (h : ∀ a',Has a' n ((d,some v) :: l) → wpK P ops Q k0 (ChgF B h0 w') fuel (listed.setIfInBounds i true) a' w') : wpK P ops Q k0 (ChgF B h0 w) (fuel + 1) listed a w:=by
  refine k_one i hi rfl hr ?_;unfold Oper.wp;rw [hrun a.eval H.eval];exact⟨hc,h _ (H.put d v hd)⟩
theorem Zn9 (i : Nat) {x y : Operand} {t T : TypeId} {b o : Nat} {u : Value} {vs cs : List Value} (H : Has a n l) (hi : ops[i]? = some ⟨none,.store t x y,ty,pos,af,none⟩) (ex : lo l x=some (.pointer (some ⟨b,o,none⟩))) (ey : lo l y=some u)
    (hc : u.cells=vs.toArray) (hs : Xb P t=some vs.length) (hb : Blk w b cs T) (hl : o + vs.length ≤ cs.length) (h1 : ∀ u ∈ vs,u.oneCell' = true) (hr : Region.ready .any ops listed=[i]) (hB : (b < h0 → b ∈ B) ∨ act k0 (listed.setIfInBounds i true)=false)
    (h : ∀ w',Blk w' b (cs.take o ++ vs ++ cs.drop (o + vs.length)) T → Chg [b] w w' → w'.heap.size=w.heap.size → ∀ a',Has a' n l → wpK P ops Q k0 (ChgF B h0 w') fuel (listed.setIfInBounds i true) a' w') :
    wpK P ops Q k0 (ChgF B h0 w) (fuel + 1) listed a w:=by
  obtain⟨w',hrr,hb',hch,hsz⟩:=Zbs P w b T vs 0 o cs hb (by omega) h1;refine k_one i hi rfl hr ?_;unfold Oper.wp;have hrun : (execOp a.eval ⟨none,.store t x y,ty,pos,af,none⟩).run P w=.ok .skip w':=by
    simp [execOp,H.eval x _ ex,H.eval y _ ey,Instr.storeAt,Instr.sureAddr,storeVar,hc,Hd hs,hrr]
  rw [hrun];refine⟨?_,h w' (by simpa using hb') hch hsz _ H⟩
  rcases hB with hB|hB
  · exact .inl (ChgF.of hch fun k hk h=>by rw [List.mem_singleton.1 hk] at h ⊢;exact hB h)
  · exact .inr hB
theorem Qy (i : Nat) {x y : Operand} {t T : TypeId} {b : Nat} {u : Value} {vs cs : List Value} (H : Has a n l) (hi : ops[i]? = some ⟨none,.store t x y,ty,pos,af,none⟩) (ex : lo l x=some (.pointer (some ⟨b,0,none⟩))) (ey : lo l y=some u)
    (hc : u.cells=vs.toArray) (hs : Xb P t=some vs.length) (hb : Blk w b cs T) (hl : vs.length=cs.length) (h1 : ∀ u ∈ vs,u.oneCell' = true) (hr : Region.ready .any ops listed=[i]) (hB : (b < h0 → b ∈ B) ∨ act k0 (listed.setIfInBounds i true)=false)
    (h : ∀ w',Blk w' b vs T → Chg [b] w w' → w'.heap.size=w.heap.size → ∀ a',Has a' n l → wpK P ops Q k0 (ChgF B h0 w') fuel (listed.setIfInBounds i true) a' w') :
    wpK P ops Q k0 (ChgF B h0 w) (fuel + 1) listed a w:=
  Zn9 i H hi ex ey hc hs hb (by omega) h1 hr hB fun w' hb' hch hsz a' H'=>by
    have e : cs.take 0 ++ vs ++ cs.drop (0 + vs.length)=vs:=by rw [List.take_zero,List.nil_append,Nat.zero_add,hl,List.drop_length,List.append_nil]
    rw [e] at hb';exact h w' hb' hch hsz a' H'
theorem Zbt (i : Nat) {x y : Operand} {t T : TypeId} {b o : Nat} {u : Value} {cs : List Value} (H : Has a n l) (hi : ops[i]? = some ⟨none,.store t x y,ty,pos,af,none⟩) (ex : lo l x=some (.pointer (some ⟨b,o,none⟩))) (ey : lo l y=some u)
    (hs : Xb P t=some 1) (hb : Blk w b cs T) (hl : o < cs.length) (h1 : u.oneCell' = true) (hr : Region.ready .any ops listed=[i]) (hB : (b < h0 → b ∈ B) ∨ act k0 (listed.setIfInBounds i true)=false)
    (h : ∀ w',Blk w' b (cs.set o u) T → Chg [b] w w' → w'.heap.size=w.heap.size → ∀ a',Has a' n l → wpK P ops Q k0 (ChgF B h0 w') fuel (listed.setIfInBounds i true) a' w') :
    wpK P ops Q k0 (ChgF B h0 w) (fuel + 1) listed a w:=
  Zn9 (vs:=[u]) i H hi ex ey (Zji h1) hs hb (by simp only [List.length_cons,List.length_nil];omega) (by simpa using h1) hr hB fun w' hb' hch hsz a' H'=>by
    have e : cs.take o ++ [u] ++ cs.drop (o + [u].length)=cs.set o u:=Zqz hl;rw [e] at hb';exact h w' hb' hch hsz a' H'
theorem Zpa (i : Nat) {x y : Operand} {t t' E k bytes : Nat} {z : List Value} {d' : TypeDesc} {u : Value} {m0 m : Nat} {xs news : List Value} (H : Has a n l)
    (hi : ops[i]? = some ⟨some d,.call { callee:=.builtin .append,args:=#[x,y],argTypes:=#[t,t'] },ty,pos,af,none⟩) (ex : lo l x=some v) (ey : lo l y=some u)
    (ht : P.underlying t=some (.slice E)) (ht' : P.underlying t' = some d') (hd' : ∀ q,d' ≠ .int q) (hE : ElemOk P E k bytes z) (hv : Own w E k v m0 xs) (hx : Src w k u m news) (h1 : ∀ u ∈ news,u.oneCell' = true)
    (hb : (m0 + m) * bytes ≤ 140737488355328) (h63 : m0 + m ≤ maxLen) (hd : Nat.blt d n=true) (hr : Region.ready .any ops listed=[i]) (hB : (∀ b ∈ Zap v,b < h0 → b ∈ B) ∨ act k0 (listed.setIfInBounds i true)=false)
    (h : ∀ v' w',Own w' E k v' (m0 + m) (xs ++ news) → Chg (Zap v) w w' → (Zap v' = Zap v ∨ ∃ b,Zap v' = [b] ∧ w.heap.size ≤ b) → (v' = .slice none 0 0 ↔ v=.slice none 0 0 ∧ m=0) →
      ∀ a',Has a' n ((d,some v') :: l) → wpK P ops Q k0 (ChgF B h0 w') fuel (listed.setIfInBounds i true) a' w') : wpK P ops Q k0 (ChgF B h0 w) (fuel + 1) listed a w:=by
  obtain⟨v',w',hrr,h2,h3,h4,h5⟩:=Zk7 (ty:=ty) ht ht' hd' hE hv hx h1 hb h63;refine Zsy i (w':=w') H hi (fun ρ hρ=>by simp [execOp,resolve,invoke,builtin,hρ x _ ex,hρ y _ ey,hrr]) hd hr ?_ (h v' w' h2 h3 h4 h5)
  rcases hB with hB|hB
  · exact .inl (ChgF.of h3 hB)
  · exact .inr hB
theorem Zb2 (i : Nat) {T E k len : Nat} {ps : List (Nat × Operand)} {vs : List (Nat × Value)} {zs cs : List Value} (H : Has a n l) (hi : ops[i]? = some ⟨some d,.buildSlice T len ps.toArray,ty,pos,af,none⟩)
    (ht : P.underlying T=some (.slice E)) (hk : Xb P E=some k) (hz : Tw P E=some zs) (hle : Nat.ble (len * k) 16777216=true)
    (hzl : zs.length=k) (e : loP (lo l) ps=some vs) (hf : Instr.fill (fun i=>some (i * k,k)) ((List.replicate len zs).flatten).toArray vs=some cs.toArray) (hd : Nat.blt d n=true) (hr : Region.ready .any ops listed=[i])
    (h : ∀ b w',Blk w' b cs E → Ext w w' → w.heap.size=b → ∀ a',Has a' n ((d,some (.slice (some ⟨b,0,none⟩) len len)) :: l) → wpK P ops Q k0 (ChgF B h0 w') fuel (listed.setIfInBounds i true) a' w') :
    wpK P ops Q k0 (ChgF B h0 w) (fuel + 1) listed a w:=
  Zsy i (w':=w.alloc (.cells cs.toArray E)) H hi (fun ρ hρ=>Zqy ht hk hz hle hzl e hf ρ hρ) hd hr (.inl (ChgF.of_ext (Ext.alloc' _ _))) (h w.heap.size _ (Blk.new w cs E) (Ext.alloc' _ _) rfl)
theorem Ze6 (i : Nat) {T : TypeId} {cs : List Value} (H : Has a n l) (hi : ops[i]? = some ⟨some d,.alloc T,ty,pos,af,none⟩) (hz : Tw P T=some cs) (hd : Nat.blt d n=true) (hr : Region.ready .any ops listed=[i])
    (h : ∀ b w',Blk w' b cs T → Ext w w' → w.heap.size=b → ∀ a',Has a' n ((d,some (.pointer (some ⟨b,0,none⟩))) :: l) → wpK P ops Q k0 (ChgF B h0 w') fuel (listed.setIfInBounds i true) a' w') :
    wpK P ops Q k0 (ChgF B h0 w) (fuel + 1) listed a w:=
  Zsy i (w':=w.alloc (.cells cs.toArray T)) H hi (fun ρ hρ=>by
    obtain⟨z,hr,hzc⟩:=Zhu hz w;simp [execOp,Instr.alloc,hr,newVar,newRow,hzc]) hd hr (.inl (ChgF.of_ext (Ext.alloc' _ _))) (h w.heap.size _ (Blk.new w cs T) (Ext.alloc' _ _) rfl)
theorem k_box (i : Nat) {x : Operand} {T : TypeId} {u : Value} {cs : List Value} (H : Has a n l) (hi : ops[i]? = some ⟨some d,.box T x,ty,pos,af,none⟩) (e : lo l x=some u) (hc : u.cells=cs.toArray) (hd : Nat.blt d n=true) (hr : Region.ready .any ops listed=[i])
    (h : ∀ b w',Blk w' b cs T → Ext w w' → w.heap.size=b → ∀ a',Has a' n ((d,some (.pointer (some ⟨b,0,none⟩))) :: l) → wpK P ops Q k0 (ChgF B h0 w') fuel (listed.setIfInBounds i true) a' w') :
    wpK P ops Q k0 (ChgF B h0 w) (fuel + 1) listed a w:=
  Zsy i (w':=w.alloc (.cells cs.toArray T)) H hi (fun ρ hρ=>by simp [execOp,hρ x _ e,Instr.box,newVar,newRow,hc]) hd hr (.inl (ChgF.of_ext (Ext.alloc' _ _))) (h w.heap.size _ (Blk.new w cs T) (Ext.alloc' _ _) rfl)
def Zps (P : Program) (ops : Array Oper) (Q : Exit → Act → World → Prop) (k0 : Nat) (S : World → Prop) (fuel : Nat) (listed : Array Bool) (i : Nat) (a : Act) (w : World) : Prop:=
  wpOp P ops Q i (fun a' w'=>(act k0 (listed.setIfInBounds i true)=true → S w') ∧ wpK P ops Q k0 S fuel (listed.setIfInBounds i true) a' w') a w
theorem Zjj (i j : Nat) (hr : Region.ready .any ops listed=[i,j]) (h1 : Zps P ops Q k0 (ChgF B h0 w) fuel listed i a w) (h2 : Zps P ops Q k0 (ChgF B h0 w) fuel listed j a w) : wpK P ops Q k0 (ChgF B h0 w) (fuel + 1) listed a w:=by
  refine⟨fun h0=>(by rw [h0] at hr;cases hr),fun k hk=>?_⟩;rw [hr] at hk;simp only [List.mem_cons,List.not_mem_nil,or_false] at hk
  rcases hk with rfl|rfl
  · exact h1
  · exact h2
theorem Zur (i j m : Nat) (hr : Region.ready .any ops listed=[i,j,m]) (h1 : Zps P ops Q k0 (ChgF B h0 w) fuel listed i a w) (h2 : Zps P ops Q k0 (ChgF B h0 w) fuel listed j a w) (h3 : Zps P ops Q k0 (ChgF B h0 w) fuel listed m a w) : wpK P ops Q k0 (ChgF B h0 w) (fuel + 1) listed a w:=by
  refine⟨fun h0=>(by rw [h0] at hr;cases hr),fun k hk=>?_⟩;rw [hr] at hk;simp only [List.mem_cons,List.not_mem_nil,or_false] at hk
  rcases hk with rfl|rfl|rfl
  · exact h1
  · exact h2
  · exact h3
theorem Zq1 (i : Nat) {o : Oper} (hi : ops[i]? = some o) (hg : o.guard=none)
    (h : o.wp P a w (fun a' w'=>Go' B k0 h0 (listed.setIfInBounds i true) w w' ∧ wpK P ops Q k0 (ChgF B h0 w') fuel (listed.setIfInBounds i true) a' w') Q) : Zps P ops Q k0 (ChgF B h0 w) fuel listed i a w:=by
  unfold Zps wpOp;simp only [hi];rw [if_pos (by simp [Region.wanted,hg])];refine .inl (Oper.wp_mono (fun a' w' h'=>?_) h)
  rcases h'.1 with hc|hn
  · exact⟨fun _=>hc,Zgy (fun w'' hw=>hc.trans hw) _ _ _ _ h'.2⟩
  · exact⟨fun ha=>(by rw [hn] at ha;cases ha),Zi7 _ _ _ _ hn h'.2⟩
theorem Zue (i : Nat) {w' : World} (H : Has a n l) (hi : ops[i]? = some ⟨some d,op,ty,pos,af,none⟩) (hrun : ∀ ρ : Operand → Value,(∀ x u,lo l x=some u → ρ x=u) → (execOp ρ ⟨some d,op,ty,pos,af,none⟩).run P w=.ok (.value v) w')
    (hd : Nat.blt d n=true) (hc : Go' B k0 h0 (listed.setIfInBounds i true) w w')
    (h : ∀ a',Has a' n ((d,some v) :: l) → wpK P ops Q k0 (ChgF B h0 w') fuel (listed.setIfInBounds i true) a' w') : Zps P ops Q k0 (ChgF B h0 w) fuel listed i a w:=by
  refine Zq1 i hi rfl ?_;unfold Oper.wp;rw [hrun a.eval H.eval];exact⟨hc,h _ (H.put d v hd)⟩
theorem Xd (i : Nat) {f : FuncId} {xs : List Operand} {tys : Array TypeId} {vs : List Value} {Φ : Value → World → Prop} (H : Has a n l)
    (hi : ops[i]? = some ⟨some d,.call { callee:=.value (.func f),args:=xs.toArray,argTypes:=tys },ty,pos,af,none⟩) (e : Zke l xs=some vs) (hf : Zt P f=true) (hc : Calls P f vs.toArray w (Ret Φ)) (hd : Nat.blt d n=true)
    (hΦ : ∀ v w',Φ v w' → Go' B k0 h0 (listed.setIfInBounds i true) w w')
    (h : ∀ v w',Φ v w' → ∀ a',Has a' n ((d,some v) :: l) → wpK P ops Q k0 (ChgF B h0 w') fuel (listed.setIfInBounds i true) a' w') : Zps P ops Q k0 (ChgF B h0 w) fuel listed i a w:=by
  refine Zq1 i hi rfl ?_;refine Zic (f:=f) (args:=vs.toArray) (by
    have:=Zdh H.eval xs vs e;simp [execOp,resolve,Act.eval,Deferred.ofValue,invoke,Kb hf,this]) hc fun v w' hv=>?_
  exact⟨hΦ v w' hv,h v w' hv _ (H.put d v hd)⟩
theorem Tk (i : Nat) {T E k len : Nat} {ps : List (Nat × Operand)} {vs : List (Nat × Value)} {zs cs : List Value} (H : Has a n l) (hi : ops[i]? = some ⟨some d,.buildSlice T len ps.toArray,ty,pos,af,none⟩)
    (ht : P.underlying T=some (.slice E)) (hk : Xb P E=some k) (hz : Tw P E=some zs) (hle : Nat.ble (len * k) 16777216=true)
    (hzl : zs.length=k) (e : loP (lo l) ps=some vs) (hf : Instr.fill (fun i=>some (i * k,k)) ((List.replicate len zs).flatten).toArray vs=some cs.toArray) (hd : Nat.blt d n=true)
    (h : ∀ b w',Blk w' b cs E → Ext w w' → w.heap.size=b → ∀ a',Has a' n ((d,some (.slice (some ⟨b,0,none⟩) len len)) :: l) → wpK P ops Q k0 (ChgF B h0 w') fuel (listed.setIfInBounds i true) a' w') :
    Zps P ops Q k0 (ChgF B h0 w) fuel listed i a w:=
  Zue i (w':=w.alloc (.cells cs.toArray E)) H hi (fun ρ hρ=>Zqy ht hk hz hle hzl e hf ρ hρ) hd (.inl (ChgF.of_ext (Ext.alloc' _ _))) (h w.heap.size _ (Blk.new w cs E) (Ext.alloc' _ _) rfl)
theorem Tl (i : Nat) {T : TypeId} {cs : List Value} (H : Has a n l) (hi : ops[i]? = some ⟨some d,.alloc T,ty,pos,af,none⟩) (hz : Tw P T=some cs) (hd : Nat.blt d n=true)
    (h : ∀ b w',Blk w' b cs T → Ext w w' → w.heap.size=b → ∀ a',Has a' n ((d,some (.pointer (some ⟨b,0,none⟩))) :: l) → wpK P ops Q k0 (ChgF B h0 w') fuel (listed.setIfInBounds i true) a' w') :
    Zps P ops Q k0 (ChgF B h0 w) fuel listed i a w:=
  Zue i (w':=w.alloc (.cells cs.toArray T)) H hi (fun ρ hρ=>by
    obtain⟨z,hr,hzc⟩:=Zhu hz w;simp [execOp,Instr.alloc,hr,newVar,newRow,hzc]) hd (.inl (ChgF.of_ext (Ext.alloc' _ _))) (h w.heap.size _ (Blk.new w cs T) (Ext.alloc' _ _) rfl)
structure Foot (F : World → Prop) (fp : Nat → Prop) (w : World) : Prop where
  lt : ∀ b,fp b → b < w.heap.size
  all : ∀ w',(∀ b,fp b → w'.heap[b]? = w.heap[b]?) → F w'
theorem Foot.now {F : World → Prop} {fp : Nat → Prop} {w : World} (h : Foot F fp w) : F w:=h.all w fun _ _=>rfl
theorem Foot.chg {F : World → Prop} {fp : Nat → Prop} {w w' : World} {D : List Nat} (h : Foot F fp w) (c : Chg D w w') (hd : ∀ b ∈ D,b < w.heap.size → ¬ fp b) : Foot F fp w':=
  ⟨fun b hb=>Nat.lt_of_lt_of_le (h.lt b hb) c.size,fun w'' hw=>h.all w'' fun b hb=>(hw b hb).trans (c.block b (h.lt b hb) fun hm=>hd b hm (h.lt b hb) hb)⟩
theorem Foot.ext {F : World → Prop} {fp : Nat → Prop} {w w' : World} (h : Foot F fp w) (e : Ext w w') : Foot F fp w':=
  h.chg (Chg.of_ext (S:=[]) e) (by simp)
theorem Foot.mono {F G : World → Prop} {fp : Nat → Prop} {w : World} (h : Foot F fp w) (hFG : ∀ w',F w' → G w') : Foot G fp w:=⟨h.lt,fun w' hw=>hFG w' (h.all w' hw)⟩
theorem Foot.and {F G : World → Prop} {fp fq : Nat → Prop} {w : World} (h : Foot F fp w) (k : Foot G fq w) : Foot (fun w'=>F w' ∧ G w') (fun b=>fp b ∨ fq b) w:=
  ⟨fun b hb=>hb.elim (h.lt b) (k.lt b),fun w' hw=>⟨h.all w' fun b hb=>hw b (.inl hb),k.all w' fun b hb=>hw b (.inr hb)⟩⟩
theorem Own.foot {E k : Nat} {v : Value} {n : Nat} {xs : List Value} (h : Own w E k v n xs) : Foot (fun w'=>Own w' E k v n xs) (fun b=>b ∈ Zap v) w:=by
  refine⟨h.lt,fun w' hw=>?_⟩
  rcases h with h | ⟨b,cap,cs,rfl,⟨fr,h2,h2'⟩,h3⟩
  · exact .inl h
  · exact .inr ⟨b,cap,cs,rfl,⟨fr,(hw b (by simp [Zap])).trans h2,h2'⟩,h3⟩
theorem Blk.foot {b : Nat} {cs : List Value} {T : TypeId} (h : Blk w b cs T) : Foot (fun w'=>Blk w' b cs T) (fun c=>c=b) w:=by
  have hl:=h.lt;refine⟨fun c hc=>by rw [hc];exact hl,fun w' hw=>?_⟩;obtain⟨fr,h2,h2'⟩:=h;exact⟨fr,(hw b rfl).trans h2,h2'⟩
theorem Own.ofBlk {b E k n : Nat} {cs : List Value} (h : Blk w b cs E) (hn : cs.length=n * k) (hm : n ≤ maxLen) : Own w E k (.slice (some ⟨b,0,none⟩) n n) n cs:=
  .inr ⟨b,n,cs,rfl,h,Nat.le_refl _,hm,hn,hn,by rw [← hn];exact List.take_length⟩
theorem ChgF.blk {w' : World} {b : Nat} {cs : List Value} {T : TypeId} (h : ChgF B h0 w w') (k : Blk w b cs T) (hb : b < h0) (hn : b ∉ B) : Blk w' b cs T:=by
  have hl:=k.lt;obtain⟨fr,h1,h2⟩:=k;exact⟨fr,(h.block b hl hb hn).trans h1,h2⟩
theorem Blk.ldB {t : TypeId} {b : Nat} {cs : List Value} {T : TypeId} (h : Blk w b cs T) (hb : b < h0) (hn : b ∉ B) {j : Nat} {v : Value} (ht : Ty P t=some false) (hj : cs[j]? = some v) : LdC P t (ChgF B h0 w) ⟨b,j,none⟩ v:=
  fun w' hw'=>Ld.one ht (((hw'.blk h hb hn).cell j).trans hj)
theorem Blk.ldAllB {t : TypeId} {b : Nat} {cs : List Value} {T : TypeId} (h : Blk w b cs T) (hb : b < h0) (hn : b ∉ B) (ht : Ty P t=some true) (hs : Xb P t=some cs.length) : LdC P t (ChgF B h0 w) ⟨b,0,none⟩ (.agg cs.toArray):=
  fun w' hw'=>(hw'.blk h hb hn).ldAll ht hs w' Ext.rfl'
theorem LdC.old {t : TypeId} {w0 : World} {ad : Addr} {v : Value} (h : LdX P t w0 ad v) (hx : Ext w0 w) (hh : w0.heap.size ≤ h0) (hn : ∀ b ∈ B,w0.heap.size ≤ b) : LdC P t (ChgF B h0 w) ad v:=
  fun w' hw'=>h w' ⟨hw'.os.trans hx.os,hw'.tape.trans hx.tape,hw'.output.trans hx.output,Nat.le_trans hx.size hw'.size,fun k hk=>(hw'.block k (Nat.lt_of_lt_of_le hk hx.size) (Nat.lt_of_lt_of_le hk hh) fun hm=>by have:=hn k hm;omega).trans (hx.block k hk)⟩
end
end Go.Proofs.YtjekfpnpfllaoaaGreatDoor
set_option linter.unusedVariables false
set_option linter.unusedSimpArgs false
set_option linter.unusedSectionVars false
namespace Go.Proofs.YtjekfpnpfllaoaaGreatDoor
open Go Go.RowKit
section
variable {P : Program}
def Zmx (P : Program) (t : TypeId) (m : Nat) (u v : Value) (r : Bool) : Prop:=∀ d w,(Op.equalIn (d + m) t u v).run P w=.ok r w
theorem Zmx.mono {t m m' : Nat} {u v : Value} {r : Bool} (h : Zmx P t m u v r) (hm : m ≤ m') : Zmx P t m' u v r:=fun d w=>by
  have:=h (d + (m' - m)) w
  rwa [show d + (m' - m) + m=d + m' by omega] at this
theorem Zeb {t : TypeId} {k k' : IntKind} {a b : Int} (h : P.underlying t=some (.int k')) : Zmx P t 1 (.int k a) (.int k b) (decide (a=b)):=fun d w=>by
  rw [run_equalIn_int w d t k k' a b h];congr 1
theorem Zq2 {t : TypeId} {a b : Bool} (h : P.underlying t=some .bool) : Zmx P t 1 (.bool a) (.bool b) (decide (a=b)):=fun d w=>by
  rw [run_equalIn_bool' w d t a b h];cases a <;> cases b <;> rfl
def Zsz (d : Nat) (xs ys : Array Value) : List (TypeId × Nat) → Sem Bool
  | []=>pure true
  | f :: fs=>do
    let a ← part f.1 xs f.2
    let b ← part f.1 ys f.2
    let r ← Op.equalIn d f.1 a b
    if (!r)=true then pure false else Zsz d xs ys fs
theorem Zjk (d : Nat) (xs ys : Array Value) : ∀ (fs : List Field), (fs.all fun f => f.name != "_") = true → Op.eqFields d xs ys fs = Zsz d xs ys (fs.map fun f => (f.type, f.offset))
  | [], _ => rfl
  | f :: fs, h => by
    simp only [List.all_cons, Bool.and_eq_true, bne_iff_ne] at h;simp only [Op.eqFields, List.map_cons, Zsz];rw [if_pos h.1, Zjk d xs ys fs h.2]
def Zg8 (P : Program) (t : TypeId) : Option (List (TypeId × Nat)) :=
  match P.underlying t with
  | some (.struct fs) => if (fs.toList.all fun f => f.name != "_") && !P.stoodInHeld t && !P.eqGuardType P.depth t then some (fs.toList.map fun f => (f.type, f.offset)) else none
  | _ => none
theorem Zg9 {t m : Nat} {fl : List (TypeId × Nat)} {xs ys : Array Value} {r : Bool} (h : Zg8 P t=some fl) (hf : ∀ d w,(Zsz (d + m) xs ys fl).run P w=.ok r w) : Zmx P t (m + 1) (.agg xs) (.agg ys) r:=fun d w=>by
  unfold Zg8 at h;cases hu : P.underlying t with
  | none=>simp [hu] at h
  | some dsc=>
    cases dsc with
    | struct fs=>
      simp only [hu] at h;split at h
      · rename_i hc
        simp only [Bool.and_eq_true,Bool.not_eq_true'] at hc;obtain⟨⟨h1,h2⟩,h3⟩:=hc;have hfo : P.fieldsOf t=fs:=by simp [Program.fieldsOf,hu]
        show (Op.equalIn ((d + m) + 1) t (.agg xs) (.agg ys)).run P w=_;rw [run_equalIn_struct w (d + m) t xs ys (by rw [hfo,hu]) h2,hfo,Zjk _ _ _ _ h1,Option.some.inj h];exact hf d w
      · cases h
    | _=>simp [hu] at h
theorem Zay {t : Nat} {fl : List (TypeId × Nat)} (h : Zg8 P t=some fl) : P.eqGuardType P.depth t=false:=by
  unfold Zg8 at h;cases hu : P.underlying t with
  | none=>simp [hu] at h
  | some dsc=>
    cases dsc with
    | struct fs=>
      simp only [hu] at h;split at h
      · rename_i hc
        simp only [Bool.and_eq_true,Bool.not_eq_true'] at hc;exact hc.2
      · cases h
    | _=>simp [hu] at h
theorem Zlq {m : Nat} {xs ys : Array Value} : ∀ (d : Nat) (w : World),(Zsz (d + m) xs ys []).run P w=.ok true w:=fun d w=>by simp [Zsz]
theorem Hy {m t off : Nat} {fl : List (TypeId × Nat)} {xs ys : Array Value} {u v : Value} {r r' : Bool} (h1 : ∀ w,(part t xs off).run P w=.ok u w) (h2 : ∀ w,(part t ys off).run P w=.ok v w) (he : Zmx P t m u v r)
    (ih : ∀ (d : Nat) (w : World),(Zsz (d + m) xs ys fl).run P w=.ok r' w) : ∀ (d : Nat) (w : World),(Zsz (d + m) xs ys ((t,off) :: fl)).run P w=.ok (r && r') w:=fun d w=>by
  have:=he d w;cases r <;> simp [Zsz,h1,h2,this,ih]
theorem Vd {t off : Nat} {cs : List Value} {v : Value} (ha : Ty P t=some false) (hv : cs[off]? = some v) (w : World) : (part t cs.toArray off).run P w=.ok v w:=by
  simp [part,Zf5 ha,hv]
theorem Zi8 {t off n : Nat} {cs ds : List Value} (ha : Ty P t=some true) (hs : Xb P t=some n) (hv : (cs.drop off).take n=ds) (w : World) : (part t cs.toArray off).run P w=.ok (.agg ds.toArray) w:=by
  simp [part,Zf5 ha,Hd hs];exact hv
theorem Zmy {t e n : Nat} {k : IntKind} {xs ys : List Int} (ht : P.underlying t=some (.array n e)) (hs : Xb P e=some 1) (ha : Ty P e=some false) (he : P.underlying e=some (.int k)) (hx : xs.length=n) (hy : ys.length=n) :
    Zmx P t 2 (.agg (xs.map (Value.int k)).toArray) (.agg (ys.map (Value.int k)).toArray) (decide (xs=ys)):=fun d w=>by
  have hp : ∀ (zs : List Int) (i : Nat) (z : Int),zs[i]? = some z → (part e (zs.map (Value.int k)).toArray (i * 1)).run P w=.ok (.int k z) w:=fun zs i z hz=>Vd ha (by simp [hz]) w
  show (Op.equalIn ((d + 1) + 1) t _ _).run P w=_;rw [Op.equalIn];simp only [Sem.run_bind,run_underlying ht,Result.andThen_ok,Hd hs];have key : ∀ (m i : Nat),i + m=n → xs.take i=ys.take i →
      (forIn (List.range' i m) ((none,()) : Option Bool × Unit) fun i (r : Option Bool × Unit)=>do
        if (!(← Op.equalIn (d + 1) e (← part e (xs.map (Value.int k)).toArray (i * 1)) (← part e (ys.map (Value.int k)).toArray (i * 1))))=true then
          pure (ForInStep.done ((some false,()) : Option Bool × Unit)) else pure (ForInStep.yield (none,())) : Sem _).run P w
        = .ok (if xs=ys then (none,()) else (some false,())) w:=by
    intro m
    induction m with
    | zero=>
      intro i hi htk;have : xs=ys:=by
        rwa [List.take_of_length_le (by omega),List.take_of_length_le (by omega)] at htk
      simp [this]
    | succ m ih=>
      intro i hi htk;obtain⟨x,hx1⟩ : ∃ x,xs[i]? = some x:=⟨_,List.getElem?_eq_getElem (by omega)⟩;obtain⟨y,hy1⟩ : ∃ y,ys[i]? = some y:=⟨_,List.getElem?_eq_getElem (by omega)⟩;simp only [List.range'_succ,List.forIn_cons,Sem.run_bind,hp xs i x hx1,hp ys i y hy1,Result.andThen_ok,run_equalIn_int w d e k k x y he]
      by_cases hxy : x=y
      · subst hxy;simp only [BEq.rfl,Bool.not_true,Bool.false_eq_true,if_false,Sem.run_pure,Result.andThen_ok];refine ih (i + 1) (by omega) ?_;rw [List.take_add_one,List.take_add_one,hx1,hy1,htk]
      · have hne : (x == y)=false:=by simpa using hxy
        have hn : xs ≠ ys:=fun e=>by rw [e,hy1] at hx1;exact hxy (Option.some.inj hx1).symm
        simp only [hne,Bool.not_false,if_true,Sem.run_pure,Result.andThen_ok,hn,if_false]
  have:=key n 0 (by omega) (by simp);simp only [Std.Legacy.Range.forIn_eq_forIn_range',Std.Legacy.Range.size];have hn : (n - 0 + 1 - 1) / 1=n:=by simp
  rw [hn,this]
  by_cases hxy : xs=ys <;> simp [hxy]
variable {L : Operand → Option Value} {C : World → Prop} {x y : Operand} {t t' : TypeId}
theorem Zla {op : BinOp} {x y : Operand} {xs ys : Array Value} (hm : P.eqGuardType P.depth t=false) (w : World) : (eqGuard op t x y (.agg xs) (.agg ys)).run P w=.ok () w:=run_eqGuard_agg w op t x y xs ys hm
theorem Zmx.at {m : Nat} {u v : Value} {r : Bool} (h : Zmx P t m u v r) (hm : m ≤ 10000) (w : World) : (Op.equalIn 10000 t u v).run P w=.ok r w:=by
  have:=h (10000 - m) w
  rwa [show 10000 - m + m=10000 by omega] at this
theorem q_eqlG {m : Nat} {xs ys : Array Value} {r : Bool} (hg : P.eqGuardType P.depth t=false) (he : Zmx P t m (.agg xs) (.agg ys) r) (hm : m ≤ 10000) (ex : L x=some (.agg xs)) (ey : L y=some (.agg ys)) : Q1 P L (.binOp .eql t x y t') C (.bool r):=
  fun ρ h w' _ dst ty pos af g=>by
    simp only [execOp,h x _ ex,h y _ ey];rw [Sem.run_bind,Sem.run_bind,Zla hg];simp [run_eql_struct,he.at hm]
theorem Zjl {m : Nat} {xs ys : Array Value} {r : Bool} (hg : P.eqGuardType P.depth t=false) (he : Zmx P t m (.agg xs) (.agg ys) r) (hm : m ≤ 10000) (ex : L x=some (.agg xs)) (ey : L y=some (.agg ys)) : Q1 P L (.binOp .neq t x y t') C (.bool (!r)):=
  fun ρ h w' _ dst ty pos af g=>by
    simp only [execOp,h x _ ex,h y _ ey];rw [Sem.run_bind,Sem.run_bind,Zla hg];simp [run_neq_struct,he.at hm]
def eI (x : Int) : List Value:=[.int .i64 x]
def eF (b : Bool) : List Value:=[.bool b]
def eS (s : ByteArray) : List Value:=[.string s]
structure ProcM where
  regs : List Int
  pc : Int
  st : Int
  prio : Int
  wait : Int
  obj : Int
  deriving DecidableEq
def eProc (p : ProcM) : List Value:=p.regs.map (Value.int .u32) ++ [.int .u32 p.pc,.int .i64 p.st,.int .i64 p.prio,.int .i64 p.wait,.int .i64 p.obj]
structure TimerM where
  proc : Int
  due : Int
  deriving DecidableEq
def Zuf (t : TimerM) : List Value:=[.int .i64 t.proc,.int .i64 t.due]
structure PageM where
  rights : Int
  dirty : Bool
  data : List Int
  deriving DecidableEq
def Zus (p : PageM) : List Value:=.int .i64 p.rights :: .bool p.dirty :: p.data.map (Value.int .u8)
structure PortM where
  msgs : List ByteArray
  age : Int
  deriving DecidableEq
structure StateM' where
  id : Int
  frame : Int
  epoch : Int
  procs : List ProcM
  ready : List Int
  timers : List TimerM
  up : List Bool
  sems : List Int
  ports : List PortM
  pages : List PageM
  deriving DecidableEq
def lim : Nat:=140737488351232
structure Sl {α : Type} (w : World) (k bytes : Nat) (R : World → List Value → α → Prop) (v : Value) (xs : List α) : Prop where
  r : SlR w k R v xs
  b : xs.length * bytes ≤ lim
theorem Sl.agr {α : Type} {w w' : World} {k bytes : Nat} {R : World → List Value → α → Prop} {v : Value} {xs : List α} (hR : Zpr R) (h : Sl w k bytes R v xs) (e : Agr w w') : Sl w' k bytes R v xs:=⟨h.r.agr hR e,h.b⟩
theorem Sl.ext {α : Type} {w w' : World} {k bytes : Nat} {R : World → List Value → α → Prop} {v : Value} {xs : List α} (hR : Zpr R) (h : Sl w k bytes R v xs) (e : Ext w w') : Sl w' k bytes R v xs:=⟨h.r.ext hR e,h.b⟩
def Zpt (w : World) (cs : List Value) (p : PortM) : Prop:=∃ v,cs=[v,.int .i64 p.age] ∧ Sl w 1 16 (Qs eS) v p.msgs
theorem Zpt.mono : Zpr Zpt:=fun w w' cs p e ⟨v,h1,h2⟩=>⟨v,h1,h2.agr (Qs.mono _) e⟩
def Zha (w : World) (v : Value) (s : StateM') : Prop:=
  ∃ v3 v4 v5 v6 v7 v8 v9,v=.agg #[.int .i64 s.id,.int .i64 s.frame,.int .i64 s.epoch,v3,v4,v5,v6,v7,v8,v9] ∧
    Sl w 21 104 (Qs eProc) v3 s.procs ∧ Sl w 1 8 (Qs eI) v4 s.ready ∧ Sl w 2 16 (Qs Zuf) v5 s.timers ∧ Sl w 1 1 (Qs eF) v6 s.up ∧ Sl w 1 8 (Qs eI) v7 s.sems ∧ Sl w 2 32 Zpt v8 s.ports ∧ Sl w 66 80 (Qs Zus) v9 s.pages
theorem Zha.agr {w w' : World} {v : Value} {s : StateM'} (h : Zha w v s) (e : Agr w w') : Zha w' v s:=by
  obtain⟨v3,v4,v5,v6,v7,v8,v9,h0,h3,h4,h5,h6,h7,h8,h9⟩:=h;exact⟨v3,v4,v5,v6,v7,v8,v9,h0,h3.agr (Qs.mono _) e,h4.agr (Qs.mono _) e,h5.agr (Qs.mono _) e,h6.agr (Qs.mono _) e,h7.agr (Qs.mono _) e,h8.agr Zpt.mono e,h9.agr (Qs.mono _) e⟩
theorem Zha.ext {w w' : World} {v : Value} {s : StateM'} (h : Zha w v s) (e : Ext w w') : Zha w' v s:=by
  obtain⟨v3,v4,v5,v6,v7,v8,v9,h0,h3,h4,h5,h6,h7,h8,h9⟩:=h;exact⟨v3,v4,v5,v6,v7,v8,v9,h0,h3.ext (Qs.mono _) e,h4.ext (Qs.mono _) e,h5.ext (Qs.mono _) e,h6.ext (Qs.mono _) e,h7.ext (Qs.mono _) e,h8.ext Zpt.mono e,h9.ext (Qs.mono _) e⟩
theorem SlR.addr {α : Type} {w : World} {k : Nat} {R : World → List Value → α → Prop} {A : Option Addr} {n c : Nat} {xs : List α} (h : SlR w k R (.slice A n c) xs) {i : Nat} (hi : i < xs.length) : ∃ ad,A=some ad:=by
  obtain⟨A',c',h1,h2,h3,h4,h5⟩:=h;cases h1
  cases A with
  | none=>obtain⟨rfl,_⟩ := h4 rfl;simp at hi
  | some ad=>exact⟨ad,rfl⟩
theorem SlR.at {α : Type} {w : World} {k : Nat} {R : World → List Value → α → Prop} {v : Value} {xs : List α} (h : SlR w k R v xs) {i : Nat} (hi : i < xs.length) : ∃ x,xs[i]? = some x:=⟨_,List.getElem?_eq_getElem hi⟩
theorem Zut {w : World} {T k i : Nat} {ad : Addr} {cs : List Value} (ht : Ty P T=some true) (hs : Xb P T=some k) (hl : cs.length=k) (hc : ∀ j u,cs[j]? = some u → w.cell? (ad.add (i * k + j))=some u) : LdX P T w (ad.add (i * k)) (.agg cs.toArray):=
  LdX.agg ht (by rw [hs,hl]) fun j u hu=>by rw [Zdg];exact hc j u hu
end
end Go.Proofs.YtjekfpnpfllaoaaGreatDoor
set_option linter.unusedVariables false
set_option linter.unusedSimpArgs false
set_option linter.unusedSectionVars false
namespace Go.Proofs.YtjekfpnpfllaoaaGreatDoor
open Go Go.RowKit
theorem Zpb {α : Type} {enc : α → List Value} (h : ∀ x,∀ u ∈ enc x,u.oneCell' = true) (xs : List α) : ∀ u ∈ xs.flatMap enc,u.oneCell' = true:=by
  intro u hu;obtain⟨x,_,hx⟩:=List.mem_flatMap.1 hu;exact h x u hx
theorem Zhv (x : Int) : ∀ u ∈ eI x,u.oneCell' = true:=by simp [eI]
theorem Zq3 (x : Bool) : ∀ u ∈ eF x,u.oneCell' = true:=by simp [eF]
theorem Zug (x : ByteArray) : ∀ u ∈ eS x,u.oneCell' = true:=by simp [eS]
def Yl (w : World) : List Value → List PortM → Prop
  | [],[]=>True
  | q :: qs,p :: ps=>Sl w 1 16 (Qs eS) q p.msgs ∧ Yl w qs ps
  | _,_=>False
theorem Yl.len {w : World} : ∀ {qs : List Value} {ps : List PortM},Yl w qs ps → qs.length=ps.length
  | [],[],_=>rfl
  | [],_ :: _,h=>by simp [Yl] at h
  | _ :: _,[],h=>by simp [Yl] at h
  | q :: qs,p :: ps,h=>by simp [h.2.len]
theorem Yl.at {w : World} : ∀ {qs : List Value} {ps : List PortM} {i : Nat} {p : PortM},Yl w qs ps → ps[i]? = some p → ∃ q,qs[i]? = some q ∧ Sl w 1 16 (Qs eS) q p.msgs
  | [],[],_,_,_,h=>by simp at h
  | [],_ :: _,_,_,h,_=>by simp [Yl] at h
  | _ :: _,[],_,_,h,_=>by simp [Yl] at h
  | q :: qs,p :: ps,0,x,h,hx=>by
    simp only [List.getElem?_cons_zero,Option.some.injEq] at hx;subst hx;exact⟨q,rfl,h.1⟩
  | q :: qs,p :: ps,i + 1,x,h,hx=>by
    simp only [List.getElem?_cons_succ] at hx ⊢;exact h.2.at hx
theorem Yl.ext {w w' : World} (e : Ext w w') : ∀ {qs : List Value} {ps : List PortM},Yl w qs ps → Yl w' qs ps
  | [],[],_=>trivial
  | [],_ :: _,h=>by simp [Yl] at h
  | _ :: _,[],h=>by simp [Yl] at h
  | q :: qs,p :: ps,h=>⟨h.1.ext (Qs.mono _) e,h.2.ext e⟩
theorem Yl.agr {w w' : World} (e : Agr w w') : ∀ {qs : List Value} {ps : List PortM},Yl w qs ps → Yl w' qs ps
  | [],[],_=>trivial
  | [],_ :: _,h=>by simp [Yl] at h
  | _ :: _,[],h=>by simp [Yl] at h
  | q :: qs,p :: ps,h=>⟨h.1.agr (Qs.mono _) e,h.2.agr e⟩
theorem Yl.foot {w : World} {qs : List Value} {ps : List PortM} (h : Yl w qs ps) : Foot (fun w'=>Yl w' qs ps) (fun b=>b < w.heap.size) w:=⟨fun _ hb=>hb,fun w' hw=>h.agr hw⟩
theorem Yl.set {w : World} {q' : Value} : ∀ {qs : List Value} {ps : List PortM} {i : Nat} {p : PortM},Yl w qs ps → ps[i]? = some p → Sl w 1 16 (Qs eS) q' p.msgs → Yl w (qs.set i q') ps
  | [],[],_,_,_,h,_=>by simp at h
  | [],_ :: _,_,_,h,_,_=>by simp [Yl] at h
  | _ :: _,[],_,_,h,_,_=>by simp [Yl] at h
  | q :: qs,p :: ps,0,x,h,hx,hq=>by
    simp only [List.getElem?_cons_zero,Option.some.injEq] at hx;subst hx;exact⟨hq,h.2⟩
  | q :: qs,p :: ps,i + 1,x,h,hx,hq=>by
    simp only [List.getElem?_cons_succ] at hx;exact⟨h.1,h.2.set hx hq⟩
section
variable {w : World}
theorem Own.sl {α : Type} {enc : α → List Value} {E k bytes : Nat} {v : Value} {n : Nat} {xs : List α} (h : Own w E k v n (xs.flatMap enc)) (hn : n=xs.length) (hk : ∀ x ∈ xs,(enc x).length=k) (hb : xs.length * bytes ≤ lim) : Sl w k bytes (Qs enc) v xs:=⟨h.slr hn hk,hb⟩
theorem Own.blk {E k b : Nat} {n cap : Nat} {xs : List Value} (h : Own w E k (.slice (some ⟨b,0,none⟩) n cap) n xs) : ∃ cs,Blk w b cs E ∧ n ≤ cap ∧ cap ≤ maxLen ∧ cs.length=cap * k ∧ xs.length=n * k ∧ cs.take (n * k)=xs:=by
  rcases h with ⟨h,_⟩ | ⟨b',cap',cs,h1,h2,h3,h4,h5,h6,h7⟩
  · cases h
  · cases h1;exact⟨cs,h2,h3,h4,h5,h6,h7⟩
theorem Own.ofBlk' {E k b : Nat} {n cap : Nat} {cs xs : List Value} (h : Blk w b cs E) (h1 : n ≤ cap) (h2 : cap ≤ maxLen) (h3 : cs.length=cap * k) (h4 : cs.take (n * k)=xs) (h5 : xs.length=n * k) : Own w E k (.slice (some ⟨b,0,none⟩) n cap) n xs:=.inr ⟨b,cap,cs,rfl,h,h1,h2,h3,h5,h4⟩
theorem Own.sm {E k : Nat} {v : Value} {n : Nat} {xs : List Value} (h : Own w E k v n xs) (hn : 0 < n) : ∃ b cap,v=.slice (some ⟨b,0,none⟩) n cap:=by
  rcases h with ⟨_,h,_⟩ | ⟨b,cap,cs,h,_⟩
  · omega
  · exact⟨b,cap,h⟩
def RestIn (w : World) (u3 u4 u5 u6 u7 u8 : Value) (s : StateM') : Prop:=
  Sl w 21 104 (Qs eProc) u3 s.procs ∧ Sl w 1 8 (Qs eI) u4 s.ready ∧ Sl w 2 16 (Qs Zuf) u5 s.timers ∧ Sl w 1 1 (Qs eF) u6 s.up ∧ Sl w 1 8 (Qs eI) u7 s.sems ∧ Sl w 2 32 Zpt u8 s.ports
def Zpc (E9 B : Nat) (w : World) (v : Value) (s : StateM') : Prop:=
  ∃ u3 u4 u5 u6 u7 u8 u9 fp,v=.agg #[.int .i64 s.id,.int .i64 s.frame,.int .i64 s.epoch,u3,u4,u5,u6,u7,u8,u9] ∧ Foot (fun w'=>RestIn w' u3 u4 u5 u6 u7 u8 s) fp w ∧
    Own w E9 66 u9 s.pages.length (s.pages.flatMap Zus) ∧ (∀ b ∈ Zap u9,B ≤ b ∧ ¬ fp b) ∧ (∀ x ∈ s.pages,(Zus x).length=66) ∧ s.pages.length * 80 ≤ lim
theorem Zpc.is {E9 B : Nat} {v : Value} {s : StateM'} (h : Zpc E9 B w v s) : Zha w v s:=by
  obtain⟨u3,u4,u5,u6,u7,u8,u9,fp,rfl,hf,hO,hn,hl,hb⟩:=h;obtain⟨h3,h4,h5,h6,h7,h8⟩:=hf.now;exact⟨u3,u4,u5,u6,u7,u8,u9,rfl,h3,h4,h5,h6,h7,h8,hO.sl rfl hl hb⟩
theorem SlR.drop {α : Type} {k : Nat} {R : World → List Value → α → Prop} {A : Option Addr} {n c : Nat} {xs : List α} (h : SlR w k R (.slice A n c) xs) (lo : Nat) (hlo : lo ≤ n) : SlR w k R (.slice (if c=lo then A else A.map (·.add (lo * k))) (n - lo) (c - lo)) (xs.drop lo):=by
  obtain⟨A',c',h1,h2,h3,h4,h5⟩:=h;cases h1
  refine⟨_,_,by rw [List.length_drop],by rw [List.length_drop];omega,by omega,?_,?_⟩
  · intro hn;have hA : A=none:=by
      by_cases hc : c=lo
      · rwa [if_pos hc] at hn
      · rw [if_neg hc] at hn;simpa using hn
    obtain⟨rfl,rfl⟩:=h4 hA;simp
  · intro ad ha i x hx
    by_cases hc : c=lo
    · rw [List.getElem?_drop] at hx;have:=(List.getElem?_eq_some_iff.1 hx).1;omega
    · rw [if_neg hc] at ha;cases A with
      | none=>simp at ha
      | some a0=>
        simp at ha;subst ha;rw [List.getElem?_drop] at hx;obtain⟨cs,g1,g2,g3⟩:=h5 a0 rfl (lo + i) x hx;exact⟨cs,g1,g2,fun j u hu=>by rw [Zdg,show lo * k + (i * k + j)=(lo + i) * k + j by rw [Nat.add_mul];omega];exact g3 j u hu⟩
def Zhb (w0 w : World) (m : Value) (xs : List ByteArray) : Prop:=∃ fp,Foot (fun w'=>Sl w' 1 16 (Qs eS) m xs) fp w ∧ ∀ b,fp b → w0.heap.size ≤ b
theorem Zhb.sl {w0 : World} {m : Value} {xs : List ByteArray} (h : Zhb w0 w m xs) : Sl w 1 16 (Qs eS) m xs:=by obtain⟨fp,h,_⟩:=h;exact h.now
theorem Zhb.nil {w0 : World} : Zhb w0 w (.slice none 0 0) []:=⟨fun _=>False,⟨fun _ h=>h.elim,fun w' _=>⟨(Own.nil w' 0 1).slr rfl (by simp),by simp [lim]⟩⟩,fun _ h=>h.elim⟩
theorem Zhb.own {w0 : World} {E n : Nat} {m : Value} {xs : List ByteArray} (h : Own w E 1 m n (xs.flatMap eS)) (hn : n=xs.length) (hl : ∀ b ∈ Zap m,w0.heap.size ≤ b) (hb : xs.length * 16 ≤ lim) : Zhb w0 w m xs:=
  ⟨_,h.foot.mono fun w' hw=>hw.sl hn (by simp [eS]) hb,hl⟩
theorem Zhb.ext {w0 w' : World} {m : Value} {xs : List ByteArray} (h : Zhb w0 w m xs) (e : Ext w w') : Zhb w0 w' m xs:=by obtain⟨fp,h,hl⟩:=h;exact⟨fp,h.ext e,hl⟩
theorem Zhb.chg {w0 w' : World} {m : Value} {xs : List ByteArray} {D : List Nat} (h : Zhb w0 w m xs) (c : Chg D w w') (hd : ∀ b ∈ D,b < w0.heap.size) : Zhb w0 w' m xs:=by
  obtain⟨fp,h,hl⟩:=h;exact⟨fp,h.chg c fun b hb _ hf=>by have:=hl b hf;have:=hd b hb;omega,hl⟩
theorem Zhb.old {w0 w1 : World} {m : Value} {xs : List ByteArray} (h : Zhb w1 w m xs) (e : w0.heap.size ≤ w1.heap.size) : Zhb w0 w m xs:=by
  obtain⟨fp,h,hl⟩:=h;exact⟨fp,h,fun b hb=>Nat.le_trans e (hl b hb)⟩
end
end Go.Proofs.YtjekfpnpfllaoaaGreatDoor
set_option linter.unusedVariables false
set_option linter.unusedSimpArgs false
set_option linter.unusedSectionVars false
namespace Go.Proofs.YtjekfpnpfllaoaaGreatDoor
open Go Go.RowKit
def Zhw (P : Program) (t : TypeId) : Option (List (TypeId × Nat)):=
  match P.underlying t with
  | some (.struct fs)=>some (fs.toList.map fun f=>(f.type,f.offset))
  | _=>none
def inK (k : IntKind) (z : Int) : Prop:=(Lit.int k z).wf=true
section
variable {H : Type} {enc : TypeId × Value → H} {P : Program} {w : World}
def Rd (enc : TypeId × Value → H) (P : Program) (w : World) (t : TypeId) (cs : List Value) : Prop:=
  ∃ fuel x,DataW.trod enc P w 0 (fun _=>true) true fuel t cs=some x ∧ ∀ n ∈ x.1.weights P t,n ≤ reachBytes
theorem Zaq {t k : Nat} (h : Xb P t=some k) : P.cellsOf t=k:=by unfold Xb at h;unfold Program.cellsOf;rw [h];rfl
theorem Rd.int {t : TypeId} {k : IntKind} {cs : List Value} (ht : P.underlying t=some (.int k)) (h : Rd enc P w t cs) : ∃ z,cs=[.int k z] ∧ inK k z:=by
  obtain⟨fuel,x,h,_⟩:=h;obtain⟨n,rfl,_,hw⟩:=DataW.trod_int ht h;exact⟨n,rfl,hw⟩
theorem Rd.bool {t : TypeId} {cs : List Value} (ht : P.underlying t=some .bool) (h : Rd enc P w t cs) : ∃ b,cs=[.bool b]:=by
  obtain⟨fuel,x,h,_⟩:=h;obtain⟨n,rfl,_⟩:=DataW.trod_bool ht h;exact⟨n,rfl⟩
theorem Rd.string {t : TypeId} {cs : List Value} (ht : P.underlying t=some .string) (h : Rd enc P w t cs) : ∃ s,cs=[.string s] ∧ s.size ≤ lim:=by
  obtain⟨fuel,x,h,hw⟩:=h;obtain⟨s,rfl,rfl,_⟩:=DataW.trod_string ht h;refine⟨s,rfl,?_⟩;have:=hw s.data.toList.length (by simp [DataW.weights]);have e : s.data.toList.length=s.size:=by simp [ByteArray.size_data]
  rw [e] at this
  simpa [lim,reachBytes] using this
theorem Zaz {ts : List TypeId} {ds : List (DataW H)} {j : Nat} {t : TypeId} {d : DataW H} (ht : ts[j]? = some t) (hd : ds[j]? = some d) : ∀ n ∈ d.weights P t,n ∈ DataW.weightsEach P ts ds:=DataW.weights_mem_each ht hd
theorem Zbu {e : TypeId} : ∀ {ds : List (DataW H)} {d : DataW H},d ∈ ds → ∀ n ∈ d.weights P e,n ∈ DataW.weightsAll P e ds
  | [],d,h,_,_=>by cases h
  | x :: ds,d,h,n,hn=>by
    simp only [DataW.weightsAll,List.mem_append]
    rcases List.mem_cons.1 h with rfl|h
    · exact .inl hn
    · exact .inr (Zbu h n hn)
theorem Rd.struct {t k : TypeId} {fl : List (TypeId × Nat)} {cs : List Value} (hf : Zhw P t=some fl) (hk : Xb P t=some k) (h : Rd enc P w t cs) :
    cs.length=k ∧ ∀ (i ft off n : Nat),fl[i]? = some (ft,off) → Xb P ft=some n → Rd enc P w ft ((cs.drop off).take n):=by
  obtain⟨fuel,x,h,hw⟩:=h;unfold Zhw at hf;cases hu : P.underlying t with
  | none=>simp [hu] at hf
  | some dsc=>
    cases dsc with
    | struct fs=>
      simp only [hu] at hf;cases hf
      obtain⟨xs,m,_,rfl,hl,hlen,hx⟩:=DataW.trod_struct hu h;refine⟨hl.trans (Zaq hk),fun i ft off n hi hn=>?_⟩;simp only [List.getElem?_map,Option.map_eq_some_iff,Prod.mk.injEq] at hi;obtain⟨f,hi,rfl,rfl⟩:=hi;have hi' : fs[i]? = some f:=by simpa using hi
      have:=hx i f hi';rw [Zaq hn] at this;have hlt : i < xs.length:=by rw [hlen];exact (Array.getElem?_eq_some_iff.1 hi').1
      obtain⟨y,hy⟩ : ∃ y,xs[i]? = some y:=⟨_,List.getElem?_eq_getElem hlt⟩;rw [hy] at this;refine⟨m,y,this,fun q hq=>hw q ?_⟩;simp only [DataW.weights,hu];exact Zaz (j:=i) (t:=f.type) (d:=y.1) (by simp [hi]) (by simp [hy]) q hq
    | _=>simp [hu] at hf
theorem Rd.array {t e k n : TypeId} {cs : List Value} (ht : P.underlying t=some (.array n e)) (hk : Xb P e=some k) (hs : Xb P t=some (n * k)) (h : Rd enc P w t cs) :
    cs.length=n * k ∧ ∀ i,i < n → Rd enc P w e ((cs.drop (i * k)).take k):=by
  obtain⟨fuel,x,h,hw⟩:=h;obtain⟨xs,m,_,rfl,hl,hlen,hx⟩:=DataW.trod_array ht h;refine⟨hl.trans (Zaq hs),fun i hi=>?_⟩;have:=hx i hi;rw [Zaq hk] at this;obtain⟨y,hy⟩ : ∃ y,xs[i]? = some y:=⟨_,List.getElem?_eq_getElem (show i < xs.length by rw [hlen];exact hi)⟩;rw [hy] at this;refine⟨m,y,this,fun q hq=>hw q ?_⟩;simp only [DataW.weights,ht];exact Zbu (d:=y.1) (List.mem_map.2 ⟨y,List.mem_of_getElem? hy,rfl⟩) q hq
theorem Zhx {α : Type} {Q : Nat → α → Prop} : ∀ (n : Nat),(∀ i,i < n → ∃ x,Q i x) → ∃ xs : List α,xs.length=n ∧ ∀ i x,xs[i]? = some x → Q i x
  | 0,_=>⟨[],rfl,fun i x h=>by simp at h⟩
  | n + 1,h=>by
    obtain⟨xs,hl,hx⟩:=Zhx n fun i hi=>h i (by omega)
    obtain⟨x,hq⟩:=h n (by omega);refine⟨xs ++ [x],by simp [hl],fun i y hy=>?_⟩
    by_cases hi : i < n
    · rw [List.getElem?_append_left (by omega)] at hy;exact hx i y hy
    · rw [List.getElem?_append_right (by omega)] at hy;have : i - xs.length=0:=by
        have:=(List.getElem?_eq_some_iff.1 hy).1;simp at this;omega
      rw [this] at hy;simp at hy;subst hy;rw [show i=n by omega];exact hq
theorem Rd.slice {α : Type} {R : World → List Value → α → Prop} {ok : α → Prop} {t e k bytes : TypeId} {cs : List Value} (ht : P.underlying t=some (.slice e)) (hk : Xb P e=some k) (hb : P.bytesOf e=bytes)
    (hel : ∀ ecs,Rd enc P w e ecs → ecs.length=k → ∃ x,R w ecs x ∧ ok x) (h : Rd enc P w t cs) : ∃ v xs,cs=[v] ∧ Sl w k bytes R v xs ∧ ∀ x ∈ xs,ok x:=by
  obtain⟨fuel,x,h,hw⟩:=h
  rcases DataW.trod_slice ht h with ⟨rfl,rfl⟩ | ⟨a,len,cap,elems,rest,m,_,rfl,rfl,_,hl,hm,hlen,hx,hsp,_⟩
  · exact⟨_,[],rfl,⟨⟨none,0,rfl,Nat.le_refl _,Nat.zero_le _,fun _=>⟨rfl,rfl⟩,by simp⟩,by simp [lim]⟩,by simp⟩
  · have hwt : (len + rest.length) * bytes ≤ reachBytes:=by
      have:=hw ((elems.length + rest.length) * P.bytesOf e) (by simp [DataW.weights,ht])
      rwa [hlen,hb] at this
    have hwe : ∀ y ∈ elems,∀ n ∈ y.1.weights P e,n ≤ reachBytes:=fun y hy n hn=>hw n (by
      simp only [DataW.weights,ht,List.mem_cons,List.mem_append];exact .inr (.inl (Zbu (d:=y.1) (List.mem_map.2 ⟨y,hy,rfl⟩) n hn)))
    have key : ∀ i,i < len → ∃ y : α,ok y ∧ ∃ ecs : List Value,ecs.length=k ∧ R w ecs y ∧ ∀ j u,ecs[j]? = some u → w.cell? (a.add (i * k + j))=some u:=by
      intro i hi;have:=hx i hi;obtain⟨z,hz⟩ : ∃ z,elems[i]? = some z:=⟨_,List.getElem?_eq_getElem (by omega)⟩;rw [hz,Zaq hk] at this;obtain⟨ecs,h1,h2⟩:=Option.bind_eq_some_iff.1 this;obtain⟨_,hel1,hel2⟩:=World.cells?_some h1;obtain⟨y,hy,hok⟩:=hel ecs ⟨m,z,h2,hwe z (List.mem_of_getElem? hz)⟩ hel1;refine⟨y,hok,ecs,hel1,hy,fun j u hu=>?_⟩;have hj : j < k:=by rw [← hel1];exact (List.getElem?_eq_some_iff.1 hu).1
      have:=hel2 j hj;rw [Zdg] at this;rw [this,hu]
    obtain⟨xs,hxl,hxs⟩:=Zhx len key;refine⟨_,xs,rfl,⟨⟨some a,cap,by rw [hxl],by omega,hm,by simp,fun ad ha i y hy=>?_⟩,?_⟩,fun y hy=>?_⟩
    · cases ha;exact (hxs i y hy).2
    · rw [hxl];have : len * bytes ≤ (len + rest.length) * bytes:=Nat.mul_le_mul_right _ (by omega);have e : lim=reachBytes:=by decide
      omega
    · obtain⟨i,hi⟩:=List.mem_iff_getElem?.1 hy;exact (hxs i y hi).1
theorem Zs0 {cs : List Value} {o : Nat} {v : Value} (h : (cs.drop o).take 1=[v]) : cs[o]? = some v:=by
  have : ((cs.drop o).take 1)[0]? = some v:=by rw [h];rfl
  simpa [List.getElem?_take] using this
theorem Zuu {k : IntKind} {n : Nat} {cs : List Value} (hl : cs.length=n) (h : ∀ i,i < n → ∃ z,(cs.drop (i * 1)).take 1=[.int k z] ∧ inK k z) : ∃ zs : List Int,cs=zs.map (Value.int k) ∧ zs.length=n ∧ ∀ z ∈ zs,inK k z:=by
  obtain⟨zs,hzl,hz⟩:=Zhx n h;refine⟨zs,?_,hzl,fun z hm=>?_⟩
  · apply List.ext_getElem?;intro i
    by_cases hi : i < n
    · obtain⟨z,hzi⟩ : ∃ z,zs[i]? = some z:=⟨_,List.getElem?_eq_getElem (by omega)⟩;have:=Zs0 (hz i z hzi).1;rw [Nat.mul_one] at this;simp [this,hzi]
    · rw [List.getElem?_eq_none (by omega),List.getElem?_eq_none (by simp;omega)]
  · obtain⟨i,hi⟩:=List.mem_iff_getElem?.1 hm;exact (hz i z hi).2
theorem Rd.of {ts : List TypeId} {ds : List (DataW H)} {j t : Nat} {v : Value} {d : DataW H} {p : List MemPlace} (h : DataW.Trod enc P w 0 (fun _=>true) true t v d p) (hz : (DataW.weightsEach P ts ds).all (· ≤ reachBytes)=true) (ht : ts[j]? = some t) (hd : ds[j]? = some d) : Rd enc P w t v.cells.toList:=by
  obtain⟨fuel,h⟩:=h;exact⟨fuel,_,h,fun n hn=>by simpa using List.all_eq_true.1 hz n (Zaz ht hd n hn)⟩
end
section
variable {H : Type} {enc : TypeId × Value → H} {P : Program} {w : World} {I U8 U32 B S A16 A64 : TypeId}
theorem Zuv (hB : P.underlying B=some .bool) (ecs : List Value) (h : Rd enc P w B ecs) (_ : ecs.length=1) : ∃ x,Qs eF w ecs x ∧ True:=by
  obtain⟨z,rfl⟩:=h.bool hB;exact⟨z,rfl,trivial⟩
theorem Zq4 (hS : P.underlying S=some .string) (ecs : List Value) (h : Rd enc P w S ecs) (_ : ecs.length=1) : ∃ x,Qs eS w ecs x ∧ x.size ≤ lim:=by
  obtain⟨z,rfl,hz⟩:=h.string hS;exact⟨z,rfl,hz⟩
end
end Go.Proofs.YtjekfpnpfllaoaaGreatDoor
