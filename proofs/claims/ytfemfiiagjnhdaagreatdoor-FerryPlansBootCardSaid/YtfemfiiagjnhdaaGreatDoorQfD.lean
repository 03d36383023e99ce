/- Part of a claim, shortened by a program from its texts: Cpy, Ptr, Cop, PtD. -/
import Derived.Test.YtfemfiiagjnhdaaGreatDoorQfC
set_option linter.unusedVariables false
set_option linter.unusedSimpArgs false
set_option linter.unusedSectionVars false
namespace Go.Proofs.YtfemfiiagjnhdaaGreatDoor
open Go Go.RowKit
section
variable {P : Program} {L : Operand → Option Value} {C : World → Prop} {x : Operand}
theorem Zoh {T e k len b o : Nat} (ht : P.underlying T=some (.array len e)) (hk : Jd P e=some k) (ex : L x=some (.pointer (some ⟨b,o,none⟩))) (hl : len ≠ 0) :
    Q1 P L (.slice T x none none none) C (.slice (some ⟨b,o,none⟩) len len):=
  fun ρ h w' _ dst ty pos af g=>by
    simp only [execOp,h x _ ex,Option.map_none]
    simp [Instr.sliceAt,Instr.sureAddr,run_underlying ht,Instr.sliceBounds,Yz hk,hl,Addr.add]
end
def cpyL (v : List UInt8) (s : ByteArray) : List UInt8:=s.data.toList.take v.length ++ v.drop s.size
theorem Zrk (v : List UInt8) (s : ByteArray) : (cpyL v s).length=v.length:=by
  have : s.data.toList.length=s.size:=by simp [ByteArray.size_data]
  simp only [cpyL,List.length_append,List.length_take,List.length_drop,this];omega
def Zq4 {n : Nat} (v : Vector UInt8 n) (s : ByteArray) : Vector UInt8 n:=⟨(cpyL v.toList s).toArray,by simp [Zrk]⟩
theorem Zpv {n : Nat} (v : Vector UInt8 n) (s : ByteArray) : (Zq4 v s).toList=cpyL v.toList s:=by simp [Zq4]
section
variable {P : Program} {ops : Array Oper} {Q : Exit → Act → World → Prop} {a : Act} {n : Nat} {l : List (Nat × Option Value)} {w : World} {B : List Nat} {k0 h0 fuel : Nat} {listed : Array Bool} {ty : TypeId} {pos : String} {af : Array Edge} {d : Nat}
theorem Zmm {t t' e b o m T : Nat} {s : ByteArray} {cs : List Value} (ht : P.underlying t=some (.slice e)) (he : Jd P e=some 1) (hb : Blk w b cs T) (hl : o + m ≤ cs.length) :
    ∃ w',(Builtin.copy_ #[t,t'] ty #[.slice (some ⟨b,o,none⟩) m m,.string s]).run P w=.ok (goInt (Nat.min s.size m)) w' ∧
      Blk w' b (cs.take o ++ (s.data.toList.take m).map (fun c : UInt8=>Value.int .u8 (c.toNat : Int)) ++ cs.drop (o + Nat.min s.size m)) T ∧ Chg [b] w w' ∧ w'.heap.size=w.heap.size:=by
  have hs : s.data.toList.length=s.size:=by simp [ByteArray.size_data]
  have hex : (s.data.toList.map fun c : UInt8=>Value.int .u8 (c.toNat : Int)).take (Nat.min s.size m)=(s.data.toList.take m).map fun c : UInt8=>Value.int .u8 (c.toNat : Int):=by
    rw [List.map_take]
    by_cases h : s.size ≤ m
    · rw [show Nat.min s.size m=s.size from Nat.min_eq_left h,List.take_of_length_le (by simp [hs]),List.take_of_length_le (by simp [hs];exact h)]
    · rw [show Nat.min s.size m=m from Nat.min_eq_right (by omega)]
  have hvl : ((s.data.toList.take m).map fun c : UInt8=>Value.int .u8 (c.toNat : Int)).length=Nat.min s.size m:=by
    rw [List.length_map,List.length_take,hs];show min m s.size=min s.size m;omega
  obtain⟨w',hr,hb',hch,hsz⟩:=Hw P w b T ((s.data.toList.take m).map fun c : UInt8=>Value.int .u8 (c.toNat : Int)) 0 o cs hb (by rw [hvl];have : Nat.min s.size m ≤ m:=Nat.min_le_right _ _;omega) (by
    intro u hu
    obtain⟨c,_,rfl⟩:=List.mem_map.1 hu
    rfl)
  refine⟨w',?_,by rw [hvl] at hb';simpa using hb',hch,hsz⟩
  simp [Builtin.copy_,run_underlying ht,Yz he,Builtin.firstCells,Builtin.lenOf]
  rw [hex,hr];rfl
theorem Zpw (i : Nat) {x y : Operand} {t t' e b o m T : Nat} {s : ByteArray} {cs : List Value} (H : Has a n l) (hi : ops[i]? = some ⟨some d,.call { callee:=.builtin .copy,args:=#[x,y],argTypes:=#[t,t'] },ty,pos,af,none⟩)
    (ht : P.underlying t=some (.slice e)) (he : Jd P e=some 1) (ex : lo l x=some (.slice (some ⟨b,o,none⟩) m m)) (ey : lo l y=some (.string s)) (hb : Blk w b cs T) (hl : o + m ≤ cs.length) (hd : Nat.blt d n=true)
    (hr : Region.ready .any ops listed=[i]) (hB : (b < h0 → b ∈ B) ∨ act k0 (listed.setIfInBounds i true)=false)
    (h : ∀ w',Blk w' b (cs.take o ++ (s.data.toList.take m).map (fun c : UInt8=>Value.int .u8 (c.toNat : Int)) ++ cs.drop (o + Nat.min s.size m)) T → Chg [b] w w' → w'.heap.size=w.heap.size → ∀ a',Has a' n ((d,some (.int .i64 (Nat.min s.size m : Nat))) :: l) → wpK P ops Q k0 (ChgF B h0 w') fuel (listed.setIfInBounds i true) a' w') :
    wpK P ops Q k0 (ChgF B h0 w) (fuel + 1) listed a w:=by
  obtain⟨w',hrr,hb',hch,hsz⟩:=Zmm (ty:=ty) (t':=t') (m:=m) (s:=s) ht he hb hl
  refine Zpc i (w':=w') H hi (fun ρ hρ=>by simp [execOp,resolve,invoke,builtin,hρ x _ ex,hρ y _ ey,hrr,goInt]) hd hr ?_ (h w' hb' hch hsz)
  rcases hB with hB|hB
  · exact .inl (ChgF.of hch fun k hk h=>by rw [List.mem_singleton.1 hk] at h ⊢;exact hB h)
  · exact .inr hB
theorem Zpx {A : List Value} {len : Nat} {v : Vector UInt8 len} {s : ByteArray} :
    (A ++ v.toList.map (fun c : UInt8=>Value.int .u8 (c.toNat : Int))).take A.length ++ (s.data.toList.take len).map (fun c : UInt8=>Value.int .u8 (c.toNat : Int)) ++ (A ++ v.toList.map (fun c : UInt8=>Value.int .u8 (c.toNat : Int))).drop (A.length + Nat.min s.size len)
      = A ++ (Zq4 v s).toList.map (fun c : UInt8=>Value.int .u8 (c.toNat : Int)):=by
  have hv : v.toList.length=len:=by simp
  rw [Zpv,cpyL,hv,List.take_append_of_le_length (Nat.le_refl _),List.take_length,List.drop_append,List.map_append,List.append_assoc]
  congr 2
  rw [List.drop_of_length_le (by omega),List.nil_append,show A.length + Nat.min s.size len - A.length=Nat.min s.size len by omega,← List.map_drop]
  congr 1
  by_cases h : s.size ≤ len
  · rw [show Nat.min s.size len=s.size from Nat.min_eq_left h]
  · rw [show Nat.min s.size len=len from Nat.min_eq_right (by omega),List.drop_of_length_le (by omega),List.drop_of_length_le (by omega)]
end
theorem Zny {k : Nat} {v : Value} {zs ds : List Value} (h : v.cells=ds.toArray) (hd : ds.length=k) (hz : zs.length=k) : Instr.fill (fun i=>some (i * k,k)) ((List.replicate 1 zs).flatten).toArray [(0,v)]=some ds.toArray:=by
  have e : (List.replicate 1 zs).flatten=zs:=by simp
  rw [e,fillA (ds:=ds) (n:=k) (off:=0) h hd (by simp) (by omega),List.take_zero,List.nil_append,Nat.zero_add,List.drop_of_length_le (by omega),List.append_nil]
  rfl
end Go.Proofs.YtfemfiiagjnhdaaGreatDoor
set_option linter.unusedVariables false
set_option linter.unusedSimpArgs false
set_option linter.unusedSectionVars false
namespace Go.Proofs.YtfemfiiagjnhdaaGreatDoor
open Go Go.RowKit
theorem Zrl {α : Type} {n : Nat} (v : Vector α n) (f : α → Value) (i : Nat) (y : α) : (v.toList.map f).set (0 + i) (f y)=(v.setIfInBounds i y).toList.map f:=by rw [Nat.zero_add];exact Ztl v f i y
theorem Zrm {α : Type} {n : Nat} {v : Vector α n} {f : α → Value} {i : Nat} {x : α} (h : v[i]? = some x) : (v.toList.map f)[0 + i]? = some (f x):=by rw [Nat.zero_add];exact Zpr h
theorem SlR.takeV {α : Type} {w : World} {k : Nat} {R : World → List Value → α → Prop} {v : Value} {xs : List α} {A : Option Addr} {n c : Nat} {z : Int} (h : SlR w k R v xs) (hv : v=.slice A n c) (h0 : 0 ≤ z) (h1 : z ≤ ((xs.length : Nat) : Int)) : SlR w k R (.slice A z.toNat c) (xs.take z.toNat):=by
  obtain⟨A',c',g1,g2,g3,g4,g5⟩:=h
  have e:=g1.symm.trans hv
  cases e
  refine⟨A,c,by rw [List.length_take,Nat.min_eq_left (by omega)],by rw [List.length_take];omega,g3,fun hA=>?_,fun ad ha i x hx=>?_⟩
  · obtain⟨e1,e2⟩:=g4 hA
    exact⟨by rw [e1];simp,e2⟩
  · rw [List.getElem?_take] at hx
    split at hx
    · exact g5 ad ha i x hx
    · cases hx
section
variable {P : Program} {ops : Array Oper} {Q : Exit → Act → World → Prop} {rest : List Oper} {a : Act} {n : Nat} {l : List (Nat × Option Value)} {w : World} {B : List Nat} {k0 h0 : Nat}
  {op : Op} {ty : TypeId} {pos : String} {af : Array Edge} {d fuel : Nat} {listed : Array Bool} {α : Type} {e : α → List Value} {E k i j o c n0 : Nat} {v u : Value} {xs : List α} {x0 x' : α} {ad : Addr} {A : Option Addr} {t : TypeId} {x y : Operand}
theorem kg_run (i : Nat) {jg tg : Nat} {want : Bool} {w' : World} {v : Value} (H : Has a n l) (hi : ops[i]? = some ⟨some d,op,ty,pos,af,some (jg,want)⟩) (hj : (ops[jg]?).bind (·.dst)=some tg) (ht : lk l tg=some (.bool want)) (hrun : ∀ ρ : Operand → Value,(∀ x u,lo l x=some u → ρ x=u) → (execOp ρ ⟨some d,op,ty,pos,af,some (jg,want)⟩).run P w=.ok (.value v) w')
    (hd : Nat.blt d n=true) (hr : Region.ready .any ops listed=[i]) (hc : Go' B k0 h0 (listed.setIfInBounds i true) w w')
    (h : ∀ a',Has a' n ((d,some v) :: l) → wpK P ops Q k0 (ChgF B h0 w') fuel (listed.setIfInBounds i true) a' w') : wpK P ops Q k0 (ChgF B h0 w) (fuel + 1) listed a w:=by
  refine Zs0 i hi (Zbw H hj ht) hr ?_
  unfold Oper.wp
  rw [hrun a.eval H.eval]
  exact⟨hc,h _ (H.put d v hd)⟩
theorem Zjs (i : Nat) {jg tg : Nat} {want : Bool} {T E k len : Nat} {ps : List (Nat × Operand)} {vs : List (Nat × Value)} {zs cs : List Value} (H : Has a n l) (hi : ops[i]? = some ⟨some d,.buildSlice T len ps.toArray,ty,pos,af,some (jg,want)⟩) (hj : (ops[jg]?).bind (·.dst)=some tg) (htg : lk l tg=some (.bool want))
    (ht : P.underlying T=some (.slice E)) (hk : Jd P E=some k) (hz : Hb P E=some zs) (hle : Nat.ble (len * k) 16777216=true)
    (hzl : zs.length=k) (e : loP (lo l) ps=some vs) (hf : Instr.fill (fun i=>some (i * k,k)) ((List.replicate len zs).flatten).toArray vs=some cs.toArray) (hd : Nat.blt d n=true) (hr : Region.ready .any ops listed=[i])
    (h : ∀ b w',Blk w' b cs E → Ext w w' → w.heap.size=b → ∀ a',Has a' n ((d,some (.slice (some ⟨b,0,none⟩) len len)) :: l) → wpK P ops Q k0 (ChgF B h0 w') fuel (listed.setIfInBounds i true) a' w') :
    wpK P ops Q k0 (ChgF B h0 w) (fuel + 1) listed a w:=
  kg_run i (w':=w.alloc (.cells cs.toArray E)) H hi hj htg (fun ρ hρ=>Znq ht hk hz hle hzl e hf ρ hρ) hd hr (.inl (ChgF.of_ext (Ext.alloc' _ _))) (h w.heap.size _ (Blk.new w cs E) (Ext.alloc' _ _) rfl)
end
section
variable {P : Program} {ops : Array Oper} {Q : Exit → Act → World → Prop} {k0 : Nat} {S : World → Prop}
def aftM : List (Edge) → Nat
  | []=>0
  | e :: r=>if Region.binds .any e=true then aftM r ||| 2 ^ e.on else aftM r
def opM (ops : Array Oper) (j : Nat) : Nat:=match ops[j]? with
  | none=>0
  | some o=>aftM o.after.toList
def Zrn (ops : Array Oper) (M : Nat) : List Nat → Nat → Nat
  | [],z=>z
  | j :: r,z=>Zrn ops M r (if M.testBit j=true then z ||| opM ops j else z)
def Zhl (ops : Array Oper) (k0 : Nat) : Nat → Nat
  | 0=>2 ^ k0
  | f + 1=>Zrn ops (Zhl ops k0 f) (List.range ops.size) (Zhl ops k0 f)
def Znz (ops : Array Oper) (listed : Array Bool) : Prop:=∀ j o,ops[j]? = some o → listed.getD j false=true → ∀ e ∈ o.after,Region.binds .any e=true → listed.getD e.on false=true
def Zpy (ops : Array Oper) (listed : Array Bool) : Bool:=(List.range ops.size).all fun j=>!(listed.getD j false) || (match ops[j]? with
  | none=>true
  | some o=>o.after.toList.all fun e=>!(Region.binds .any e) || listed.getD e.on false)
theorem Zkx {listed : Array Bool} (h : Zpy ops listed=true) : Znz ops listed:=by
  intro j o ho hl e he hb
  have hj : j < ops.size:=(Array.getElem?_eq_some_iff.1 ho).1
  have:=List.all_eq_true.1 h j (List.mem_range.2 hj)
  rw [hl,ho] at this
  simp only [Bool.not_true,Bool.false_or] at this
  have:=List.all_eq_true.1 this e (by simpa using he)
  rw [hb] at this
  simpa using this
theorem Zjt : ∀ {l : List Edge} {i : Nat},(aftM l).testBit i=true → ∃ e ∈ l,Region.binds .any e=true ∧ e.on=i
  | [],i,h=>by simp [aftM] at h
  | e :: r,i,h=>by
    unfold aftM at h
    split at h
    · rename_i hb
      rw [Nat.testBit_or,Bool.or_eq_true] at h
      rcases h with h|h
      · obtain⟨e',h1,h2⟩:=Zjt h
        exact⟨e',List.mem_cons_of_mem _ h1,h2⟩
      · refine⟨e,List.mem_cons_self ..,hb,?_⟩
        rw [Nat.testBit_two_pow] at h
        exact of_decide_eq_true h
    · obtain⟨e',h1,h2⟩:=Zjt h
      exact⟨e',List.mem_cons_of_mem _ h1,h2⟩
theorem Zky {G : Nat → Prop} {M : Nat} (h : ∀ j,M.testBit j=true → ∀ i,(opM ops j).testBit i=true → G i) : ∀ (l : List Nat) (z : Nat),(∀ i,z.testBit i=true → G i) → ∀ i,(Zrn ops M l z).testBit i=true → G i
  | [],z,hz=>hz
  | j :: r,z,hz=>by
    rw [Zrn]
    refine Zky h r _ fun i hi=>?_
    split at hi
    · rename_i hj
      rw [Nat.testBit_or,Bool.or_eq_true] at hi
      rcases hi with hi|hi
      · exact hz i hi
      · exact h j hj i hi
    · exact hz i hi
theorem Zdn {listed : Array Bool} {o0 : Oper} (hc : Znz ops listed) (h0 : ops[k0]? = some o0) (hp : ∀ e ∈ o0.after,Region.binds .any e=true → listed.getD e.on false=true) : ∀ (f i : Nat),(Zhl ops k0 f).testBit i=true → i=k0 ∨ listed.getD i false=true
  | 0,i,h=>by
    rw [Zhl,Nat.testBit_two_pow] at h
    exact .inl (of_decide_eq_true h).symm
  | f + 1,i,h=>by
    rw [Zhl] at h
    refine Zky (G:=fun i=>i=k0 ∨ listed.getD i false=true) (fun j hj i hi=>?_) _ _ (fun i hi=>Zdn hc h0 hp f i hi) i h
    have hr:=Zdn hc h0 hp f j hj
    unfold opM at hi
    cases ho : ops[j]? with
    | none=>rw [ho] at hi;simp at hi
    | some o=>
      rw [ho] at hi
      obtain⟨e,h1,h2,rfl⟩:=Zjt hi
      rcases hr with rfl|hr
      · rw [h0] at ho
        cases ho
        exact .inr (hp e (by simpa using h1) h2)
      · exact .inr (hc j o ho hr e (by simpa using h1) h2)
theorem Zoi {i f : Nat} {oi : Oper} {v : Value} (hi : ops[i]? = some oi) (hsel : ∀ (j : Nat) (o : Oper) cs b,ops[j]? = some o → o.op ≠ .select cs b)
    (hQ : ∀ c a w,Q (.panic c) (a.put oi.dst v) w → Q (.panic c) a w) (hb : (Zhl ops k0 f).testBit i=true) (hne : i ≠ k0) :
    ∀ (fuel : Nat) (listed : Array Bool) (a : Act) (w : World),act k0 listed=true → listed.size=ops.size → Znz ops listed →
      (∀ j oj,ops[j]? = some oj → j ≠ i → listed.getD j true=false → (∀ e ∈ oj.after,Region.binds .any e=true → e.on ≠ i) → oi.apart ops oj=true) →
      i ∈ Region.ready .any ops listed → YieldsIf P ops S oi v a → S w →
      wpK P ops Q k0 S fuel (listed.setIfInBounds i true) (a.put oi.dst v) w → wpK P ops Q k0 S (fuel + 1) listed a w:=by
  intro fuel
  induction fuel with
  | zero=>
    intro listed a w hk hsz _ _ hr hy hS H
    refine⟨fun h=>(by rw [h] at hr;cases hr),fun j hj=>?_⟩
    by_cases hji : j=i
    · subst hji;exact hy.wpOp hi hS ⟨fun _=>hS,H⟩
    · have:=ready_mono hj hji
      rw [H.1] at this
      cases this
  | succ fuel ih=>
    intro listed a w hk hsz hcl hfree hr hy hS H
    refine⟨fun h=>(by rw [h] at hr;cases hr),fun j hj=>?_⟩
    by_cases hji : j=i
    · subst hji;exact hy.wpOp hi hS ⟨fun _=>hS,H⟩
    · have h1:=H.2 j (ready_mono hj hji)
      obtain⟨hjun,oj,hoj,hall⟩:=mem_ready.1 hj
      have hun : listed.getD i false=false:=by
        have h0:=(mem_ready.1 hr).1
        rcases Nat.lt_or_ge i listed.size with h'|h'
        · simpa [h'] using h0
        · simp [Array.getElem?_eq_none h']
      have hnot : ∀ e ∈ oj.after,Region.binds .any e=true → e.on ≠ i:=fun e he hb heq=>by
        have h1:=hall e he hb
        rw [heq,hun] at h1
        cases h1
      have hjk : j ≠ k0:=fun e=>by
        subst e
        rcases Zdn hcl hoj hall f i hb with e|e
        · exact hne e
        · rw [hun] at e;cases e
      have h2:=wpOp_putIf hoj (hfree j oj hoj hji hjun hnot) (fun cs b=>hsel i oi cs b hi) (fun cs b=>hsel j oj cs b hoj) hQ hy h1
      have hfree' : ∀ k ok,ops[k]? = some ok → k ≠ i → (listed.setIfInBounds j true).getD k true=false →
          (∀ e ∈ ok.after,Region.binds .any e=true → e.on ≠ i) → oi.apart ops ok=true:=fun k ok hk hki hun hno=>by
        refine hfree k ok hk hki ?_ hno
        by_cases hjk : j=k
        · subst hjk;exact hjun
        · rw [getD_set_ne true hjk] at hun;exact hun
      have up : ∀ x,listed.getD x false=true → (listed.setIfInBounds j true).getD x false=true:=fun x hx=>by
        by_cases hjx : j=x
        · subst hjx
          rcases Nat.lt_or_ge j listed.size with h'|h'
          · simp [h']
          · simp [Array.getElem?_eq_none h'] at hx
        · rw [getD_set_ne false hjx];exact hx
      have hcl' : Znz ops (listed.setIfInBounds j true):=fun x o ho hx e he hbe=>by
        by_cases hjx : j=x
        · subst hjx
          rw [hoj] at ho
          cases ho
          exact up _ (hall e he hbe)
        · rw [getD_set_ne false hjx] at hx
          exact up _ (hcl x o ho hx e he hbe)
      have hk' : act k0 (listed.setIfInBounds j true)=true:=by
        unfold act at *
        rwa [getD_set_ne false hjk]
      have hk2 : act k0 ((listed.setIfInBounds i true).setIfInBounds j true)=true:=by
        unfold act at *
        rw [getD_set_ne false hjk,getD_set_ne false hne];exact hk
      refine wpOp_mono (fun a' w' h3=>⟨fun _=>h3.2.1 hk2,ih (listed.setIfInBounds j true) a' w' hk' (by simpa using hsz) hcl' hfree' (ready_mono hr (Ne.symm hji)) h3.1 (h3.2.1 hk2) ?_⟩) h2
      rw [Array.setIfInBounds_comm _ _ hji]
      exact h3.2.2
end
section
variable {P : Program} {ops : Array Oper} {Q : Exit → Act → World → Prop} {a : Act} {n : Nat} {l : List (Nat × Option Value)} {w : World} {B : List Nat} {k0 h0 : Nat}
  {op : Op} {ty : TypeId} {pos : String} {af : Array Edge} {d fuel : Nat} {v : Value} {listed : Array Bool}
theorem Zhm (i f : Nat) (H : Has a n l) (hi : ops[i]? = some ⟨some d,op,ty,pos,af,none⟩) (q : Q1 P (lo l) op (ChgF B h0 w) v) (hd : Nat.blt d n=true) (hs : Region.noSelect ops=true) (hf : Region.free .any ops listed i=true)
    (hr : (Region.ready .any ops listed).contains i=true) (hb : ((Zhl ops k0 f).testBit i && !(Nat.beq i k0) && act k0 listed && (Nat.beq listed.size ops.size) && Zpy ops listed)=true) (hQ : ∀ c a w,Q (.panic c) (a.put (some d) v) w → Q (.panic c) a w)
    (h : ∀ a',Has a' n ((d,some v) :: l) → wpK P ops Q k0 (ChgF B h0 w) fuel (listed.setIfInBounds i true) a' w) : wpK P ops Q k0 (ChgF B h0 w) (fuel + 1) listed a w:=by
  simp only [Bool.and_eq_true,Bool.not_eq_true'] at hb
  obtain⟨⟨⟨⟨h1,h2⟩,h3⟩,h4⟩,h5⟩:=hb
  exact Zoi (oi:=⟨some d,op,ty,pos,af,none⟩) (v:=v) hi (Region.noSelect_spec hs) hQ h1 (fun e=>by rw [e,Nat.beq_refl] at h2;cases h2) fuel listed a w h3 (Nat.eq_of_beq_eq_true h4) (Zkx h5) (Region.free_spec hi hf) (by simpa using hr)
    (.inl ⟨by simp [Region.wanted],fun w' hw=>q a.eval H.eval w' hw (some d) ty pos af none⟩) (ChgF.refl _ _ _) (h _ (H.put d v hd))
end
end Go.Proofs.YtfemfiiagjnhdaaGreatDoor
set_option linter.unusedVariables false
set_option linter.unusedSimpArgs false
set_option linter.unusedSectionVars false
namespace Go.Proofs.YtfemfiiagjnhdaaGreatDoor
open Go Go.RowKit
structure RawC (k : Nat) where
  cs : List Value
  len : cs.length=k
  one : ∀ u ∈ cs,u.oneCell' = true
def rawE {k : Nat} (c : RawC k) : List Value:=c.cs
section
variable {α : Type} {R : World → List Value → α → Prop} {E k n : Nat} {v u : Value} {xs : List α} {x : α} {fp : Nat → Prop} {w0 w w' : World} {rs : List Rs}
theorem SlR.raw (hone : ∀ w cs x,R w cs x → ∀ u ∈ cs,u.oneCell' = true) (h : SlR w k R v xs) : ∃ ys : List (RawC k),SlR w k (Zi rawE) v ys ∧ DIn k R (ys.map RawC.cs) xs w ∧ ys.length=xs.length:=by
  obtain⟨A,c,rfl,h1,h2,h3,h4⟩:=h
  cases A with
  | none=>
    obtain⟨rfl,rfl⟩:=h3 rfl
    exact⟨[],SlR.nil _ _ _,trivial,rfl⟩
  | some ad=>
    have key : ∀ (ys : List α) (o : Nat),(∀ i x,ys[i]? = some x → xs[o + i]? = some x) → ∃ rs : List (RawC k),rs.length=ys.length ∧ DIn k R (rs.map RawC.cs) ys w ∧ ∀ (i : Nat) (r : RawC k),rs[i]? = some r → ∀ j u,r.cs[j]? = some u → w.cell? (ad.add ((o + i) * k + j))=some u:=by
      intro ys
      induction ys with
      | nil=>intro o _;exact⟨[],rfl,trivial,fun i r h=>by simp at h⟩
      | cons y ys ih=>
        intro o ho
        obtain⟨cs,g1,g2,g3⟩:=h4 ad rfl o y (ho 0 y rfl)
        obtain⟨rs,k1,k2,k3⟩:=ih (o + 1) (fun i x hx=>by have:=ho (i + 1) x (by simpa using hx);rw [Nat.add_assoc,Nat.add_comm 1 i];exact this)
        refine⟨⟨cs,g1,hone _ _ _ g2⟩ :: rs,by simp [k1],⟨⟨g1,hone _ _ _ g2,g2⟩,k2⟩,fun i r hr j u hu=>?_⟩
        cases i with
        | zero=>simp at hr;subst hr;exact g3 j u hu
        | succ i=>
          have:=k3 i r (by simpa using hr) j u hu
          rwa [show o + 1 + i=o + (i + 1) by omega] at this
    obtain⟨ys,k1,k2,k3⟩:=key xs 0 (fun i x hx=>by simpa using hx)
    refine⟨ys,⟨some ad,c,by rw [k1],by rw [k1];exact h1,h2,(by intro h;cases h),fun ad' ha i r hr=>?_⟩,k2,k1⟩
    cases ha
    exact⟨r.cs,r.len,rfl,fun j u hu=>by have:=k3 i r hr j u hu;simpa using this⟩
theorem DIn.drop : ∀ {j : Nat} {css : List (List Value)} {xs : List α},DIn k R css xs w → DIn k R (css.drop j) (xs.drop j) w
  | 0,_,_,h=>h
  | j + 1,[],[],_=>trivial
  | j + 1,c :: css,x :: xs,⟨_,h⟩=>DIn.drop (j := j) h
  | j + 1,[],x :: xs,h=>h.elim
  | j + 1,c :: css,[],h=>h.elim
end
section
variable {P : Program} {ops : Array Oper} {Q : Exit → Act → World → Prop} {rest : List Oper} {a : Act} {n : Nat} {l : List (Nat × Option Value)} {w : World}
  {ty : TypeId} {pos : String} {af : Array Edge} {d : Nat} {v u : Value} {k0 fuel h0 : Nat} {listed : Array Bool} {B : List Nat}
variable {α : Type} {R : World → List Value → α → Prop} {E k : Nat} {xs : List α} {x0 x' : α} {w0 : World} {rs : List Rs}
variable {A : Option Addr} {ad : Addr} {x y : Operand} {t m n0 cap i c o : Nat} {F : World → Prop}
end
section
variable {α : Type} {g : α → Nat → Rs} {v : Value} {x : α} {o : Option α} {fp : Nat → Prop} {w0 w : World} {rs : List Rs} {b : Nat}
def optR (g : α → Nat → Rs) (v : Value) : Option α → Rs
  | none=>pureR (v=.pointer none)
  | some x=>exR fun b : Nat=>starR [pureR (v=.pointer (some ⟨b,0,none⟩)),g x b]
theorem St.optNone (g : α → Nat → Rs) (h : St fp w0 w rs) : St fp w0 w (optR g (.pointer none) none :: rs):=h.mkPure rfl
theorem St.optSome (x : α) (h : St fp w0 w (g x b :: rs)) : St fp w0 w (optR g (.pointer (some ⟨b,0,none⟩)) (some x) :: rs):=
  St.mkEx (f:=fun b' : Nat=>starR [pureR (Value.pointer (some ⟨b,0,none⟩)=.pointer (some ⟨b',0,none⟩)),g x b']) b ((h.mkPure rfl).fold [_,_])
theorem St.optOpen (hx : o=some x) (h : St fp w0 w (optR g v o :: rs)) : ∃ b,v=.pointer (some ⟨b,0,none⟩) ∧ St fp w0 w (g x b :: rs):=by
  subst hx
  obtain⟨b,h⟩:=St.ex (f:=fun b : Nat=>starR [pureR (v=.pointer (some ⟨b,0,none⟩)),g x b]) h
  obtain⟨hv,h⟩:=h.star.pure
  exact⟨b,hv,h⟩
end
end Go.Proofs.YtfemfiiagjnhdaaGreatDoor
set_option linter.unusedVariables false
set_option linter.unusedSimpArgs false
set_option maxRecDepth 10000
namespace Go.Proofs.YtfemfiiagjnhdaaGreatDoor
open Go Go.RowKit
theorem ag4 : Za4 Tryz.prog 4=some false:=by kernel_rfl
theorem ag9 : Za4 Tryz.prog 9=some false:=by kernel_rfl
theorem st114 : Zev Tryz.prog 114=some [(3,0),(9,1)]:=by kernel_rfl
theorem st116 : Zev Tryz.prog 116=some [(3,0),(3,1),(4,2)]:=by kernel_rfl
theorem st118 : Zev Tryz.prog 118=some [(3,0),(3,1),(3,2),(3,3)]:=by kernel_rfl
abbrev Wz : Nat:=5
abbrev Zoj : Nat:=8
abbrev Zok : Nat:=9
abbrev Vn : Nat:=10
abbrev Ur : Nat:=7
abbrev gSum : Nat:=11
abbrev Zju : Nat:=6
abbrev Hp : Nat:=4
abbrev Zhn : Nat:=3
abbrev Za7 : Nat:=12
abbrev gArg : Nat:=2
abbrev erQ (A : Nat → Addr) (u : Value) (e : ErrM) : Rs:=anyR fun w=>IsE A w u e
section
variable {fp : Nat → Prop} {w0 w : World} {rs : List Rs} {A : Nat → Addr} {b g : Nat} {p : Int}
theorem St.dAt (hg : g ∈ Zq9) (h : St fp w0 w (blkR b [.int .i64 p,sv 340 A g] 214 :: rs)) : St fp w0 w (erQ A (.iface 210 (.pointer (some ⟨b,0,none⟩))) (.pl p g) :: rs):=h.blkAny (fun w' h=>Xu.mk hg h)
theorem St.dVar (hg : g ∈ Zq9) (h : St fp w0 w rs) : St fp w0 w (erQ A (sv 340 A g) (.v g) :: rs):=h.trivAny fun w'=>⟨hg,rfl⟩
theorem St.dAtE {r e : ErrM} {u : Value} {w2 : World} (hI : IsE A w2 u e) (he : Zrg p e=some r) (h : St fp w0 w (blkR b [.int .i64 p,u] 214 :: rs)) : St fp w0 w (erQ A (.iface 210 (.pointer (some ⟨b,0,none⟩))) r :: rs):=by
  obtain⟨g,rfl,rfl⟩:=Zof he
  obtain⟨hg,rfl⟩:=hI
  exact h.dAt hg
theorem St.dNil (h : St fp w0 w rs) : St fp w0 w (erQ A .nilIface .nil :: rs):=h.trivAny fun w'=>rfl
end
def pickE : List (Value × ErrM) → Value × ErrM
  | []=>(.nilIface,.nil)
  | p :: l=>if p.2=.nil then pickE l else p
def Zgn : List ErrM → ErrM
  | []=>.nil
  | m :: l=>if m=.nil then Zgn l else m
theorem Zpz : ∀ ps : List (Value × ErrM),(pickE ps).2=Zgn (ps.map Prod.snd)
  | []=>rfl
  | p :: l=>by
    by_cases h : p.2=.nil
    · simp only [pickE,Zgn,List.map_cons,h,if_true,Zpz l]
    · simp only [pickE,Zgn,List.map_cons,h,if_false]
def REr (A : Nat → Addr) (w : World) (cs : List Value) (p : Value × ErrM) : Prop:=cs=[p.1] ∧ IsE A w p.1 p.2
theorem REr.mono (A : Nat → Addr) : Zmg (REr A):=fun _ _ _ _ e h=>⟨h.1,h.2.agr e⟩
section
variable {fp : Nat → Prop} {w0 w : World} {rs : List Rs} {A : Nat → Addr}
theorem St.dropMid {a : Rs} : ∀ {ms : List Rs},St fp w0 w (a :: (ms ++ rs)) → St fp w0 w (a :: rs)
  | [],h=>h
  | m :: ms,h=>St.dropMid (ms := ms) (St.tail (h.pick 1 rfl))
theorem St.pickE_ (ps : List (Value × ErrM)) : St fp w0 w (ps.map (fun p=>erQ A p.1 p.2) ++ rs) → St fp w0 w (erQ A (pickE ps).1 (pickE ps).2 :: rs):=by
  induction ps with
  | nil=>exact fun h=>h.dNil
  | cons p ps ih=>
    intro h
    by_cases e : p.2=.nil
    · have : pickE (p :: ps)=pickE ps:=by simp only [pickE,e,if_true]
      rw [this];exact ih h.tail
    · have : pickE (p :: ps)=p:=by simp only [pickE,e,if_false]
      rw [this];exact St.dropMid h
theorem St.pickE (ps : List (Value × ErrM)) {l : List Rs} (hl : l=ps.map (fun p=>erQ A p.1 p.2) ++ rs) (h : St fp w0 w l) : St fp w0 w (erQ A (pickE ps).1 (Zgn (ps.map Prod.snd)) :: rs):=by
  subst hl;rw [← Zpz];exact h.pickE_ ps
end
structure GPagePlan where
  Rights : Int
  Init : ByteArray
  deriving DecidableEq
def Zw (x : GPagePlan) : List Value:=[.int .i64 x.Rights,.string x.Init]
theorem Zem (x : GPagePlan) : ∀ u ∈ Zw x,u.oneCell' = true:=by
  intro u hu
  simp only [Zw,List.mem_append,List.mem_cons,List.mem_map,List.not_mem_nil,or_false] at hu
  rcases hu with rfl|rfl <;> rfl
structure GProcPlan where
  Entry : Int
  Prio : Int
  Auto : Bool
  deriving DecidableEq
def Zs (x : GProcPlan) : List Value:=[.int .i64 x.Entry,.int .i64 x.Prio,.bool x.Auto]
theorem Zen (x : GProcPlan) : ∀ u ∈ Zs x,u.oneCell' = true:=by
  intro u hu
  simp only [Zs,List.mem_append,List.mem_cons,List.mem_map,List.not_mem_nil,or_false] at hu
  rcases hu with rfl|rfl|rfl <;> rfl
structure GPortPlan where
  Kind : Int
  Size : Int
  Depth : Int
  Refresh : Int
  deriving DecidableEq
def Zp (x : GPortPlan) : List Value:=[.int .i64 x.Kind,.int .i64 x.Size,.int .i64 x.Depth,.int .i64 x.Refresh]
theorem Zeo (x : GPortPlan) : ∀ u ∈ Zp x,u.oneCell' = true:=by
  intro u hu
  simp only [Zp,List.mem_append,List.mem_cons,List.mem_map,List.not_mem_nil,or_false] at hu
  rcases hu with rfl|rfl|rfl|rfl <;> rfl
structure GPlan where
  Id : Int
  Mobile : Bool
  Pages : List GPagePlan
  Procs : List GProcPlan
  Ports : List GPortPlan
  Events : Int
  Sems : List Int
  deriving DecidableEq
def Xa (w : World) (cs : List Value) (x : GPlan) : Prop:=∃ v0 v1 v2 v3,cs=[.int .i64 x.Id,.bool x.Mobile,v0,v1,v2,.int .i64 x.Events,v3] ∧ SlR w 2 (Zi Zw) v0 x.Pages ∧ SlR w 3 (Zi Zs) v1 x.Procs ∧ SlR w 4 (Zi Zp) v2 x.Ports ∧ SlR w 1 (Zi eI) v3 x.Sems
theorem Xa.mono : Zmg Xa:=by
  intro w w' cs x e h
  obtain⟨v0,v1,v2,v3,rfl,h0,h1,h2,h3⟩:=h
  exact⟨v0,v1,v2,v3,rfl,h0.agr (Zi.mono _) e,h1.agr (Zi.mono _) e,h2.agr (Zi.mono _) e,h3.agr (Zi.mono _) e⟩
noncomputable def Zam (a0 : Int) (a1 : ErrM) : Option ErrM:=(Zrg a0 a1).bind fun aA=>some aA
noncomputable def Kx (a0 : GPlan) : Nat → Option (Nat ⊕ (Unit ⊕ ErrM)):=fun aA=>(bif decide (aA < a0.Pages.length) then (a0.Pages[aA]?).bind fun aB=>(bif (decide (aB.Rights < 0) || decide (7 < aB.Rights)) then (Zam ((aA : Nat) : Int) (.v Vn)).bind fun aC=>some (.inr (.inr aC)) else (bif decide (64 < aB.Init.size) then (Zam ((aA : Nat) : Int) (.v Ur)).bind fun aD=>some (.inr (.inr aD)) else some (.inl (aA + 1)))) else some (.inr (.inl ())))
noncomputable def Us (a0 : GPlan) : Option ErrM:=(bif (decide (a0.Pages.length < 1) || decide (32 < a0.Pages.length)) then some (.v Za7) else (Gk (Kx a0) 0).bind (fun q=>match q with | .inl _=>some .nil | .inr p=>some p))
noncomputable def Ul (aA : Nat) : Bool → Option (Nat ⊕ (Unit ⊕ ErrM)):=fun aB=>(bif aB then (Zam ((aA : Nat) : Int) (.v Vn)).bind fun aC=>some (.inr (.inr aC)) else some (.inl (aA + 1)))
noncomputable def Ky (a0 : GPlan) : Nat → Option (Nat ⊕ (Unit ⊕ ErrM)):=fun aB=>(bif decide (aB < a0.Procs.length) then (a0.Procs[aB]?).bind fun aA=>(((bif decide (aA.Entry < 0) then some true else (bif decide ((IntKind.i64.wrap (64 * ((a0.Pages.length : Nat) : Int))) ≤ aA.Entry) then some true else (bif (!decide ((Int.tmod aA.Entry 4)=0)) then some true else (bif decide (aA.Prio < 0) then some true else some (decide (255 < aA.Prio))))))) : Option Bool).bind (fun p=>(Ul aB) p) else some (.inr (.inl ())))
noncomputable def Ut (a0 : GPlan) : Option ErrM:=(bif (decide (a0.Procs.length < 1) || decide (8 < a0.Procs.length)) then some (.v Za7) else (Gk (Ky a0) 0).bind (fun q=>match q with | .inl _=>some .nil | .inr p=>some p))
noncomputable def Zaf (a0 : GPortPlan) : Option Bool:=some (decide (a0.Kind=3) || decide (a0.Kind=4))
noncomputable def Zcw (a0 : GPortPlan) : Option Bool:=some (decide (a0.Kind=1) || decide (a0.Kind=3))
noncomputable def Ti (a0 : GPortPlan) : Option Bool:=some (decide (a0.Kind=2) || decide (a0.Kind=4))
noncomputable def Gb (a0 : GPortPlan) (aC : Nat) (aA : Nat) : Bool → Option ErrM:=fun aB=>(bif aB then some (.v Zju) else (bif (decide (a0.Size < 1) || decide (32 < a0.Size)) then some (.v Za7) else (bif (((decide (a0.Depth < 1) || decide (((aC : Nat) : Int) < a0.Depth)) || decide (a0.Refresh < 0)) || decide (((aA : Nat) : Int) < a0.Refresh)) then some (.v Vn) else some .nil)))
noncomputable def Gc (a0 : GPortPlan) (aD : Nat) : Nat → Option ErrM:=fun aA=>(((Zcw a0).bind fun aB=>(bif (!aB) then (Ti a0).bind fun aC=>some (!aC) else some false)) : Option Bool).bind (fun p=>(Gb a0 aD aA) p)
noncomputable def Gd (a0 : GPortPlan) : Nat → Option ErrM:=fun aA=>(((bif decide (a0.Kind=1) then some 255 else some 0)) : Option Nat).bind (fun p=>(Gc a0 aA) p)
noncomputable def Ua (a0 : GPortPlan) : Option ErrM:=(((Zaf a0).bind fun aA=>(bif aA then some 8 else some 1)) : Option Nat).bind (fun p=>(Gd a0) p)
noncomputable def Zbj (a0 : GPortPlan) : Option (Int × ErrM):=(Ua a0).bind fun aA=>(bif (!decide (aA=.nil)) then some (0,(.v Hp)) else (Ti a0).bind fun aB=>(bif aB then some (2,.nil) else some ((IntKind.i64.wrap (2 + (IntKind.i64.wrap (a0.Depth * (IntKind.i64.wrap (1 + a0.Size)))))),.nil)))
noncomputable def Uu (a0 : GPlan) : (Int × Nat) → Option ((Int × Nat) ⊕ Int):=fun (aB,aA)=>(bif decide (aA < a0.Ports.length) then (a0.Ports[aA]?).bind fun aC=>(Zbj aC).bind fun aD=>some (.inl ((IntKind.i64.wrap (aB + (IntKind.i64.wrap (3 + aD.1)))),aA + 1)) else some (.inr aB))
noncomputable def Tj (a0 : GPlan) : Option Int:=(Gk (Uu a0) ((IntKind.i64.wrap ((IntKind.i64.wrap ((IntKind.i64.wrap ((IntKind.i64.wrap (58 + (IntKind.i64.wrap (76 * ((a0.Procs.length : Nat) : Int))))) + (IntKind.i64.wrap (68 * ((a0.Pages.length : Nat) : Int))))) + a0.Events)) + ((a0.Sems.length : Nat) : Int))),0)).bind (fun aA=>some aA)
noncomputable def Yh (a0 : GPlan) : Nat → Option (Nat ⊕ (Unit ⊕ ErrM)):=fun aA=>(bif decide (aA < a0.Sems.length) then (a0.Sems[aA]?).bind fun aB=>(bif (decide (aB < 0) || decide (255 < aB)) then (Zam ((aA : Nat) : Int) (.v Vn)).bind fun aC=>some (.inr (.inr aC)) else some (.inl (aA + 1))) else some (.inr (.inl ())))
noncomputable def Yi (a0 : GPlan) : Nat → Option (Nat ⊕ (Unit ⊕ ErrM)):=fun aA=>(bif decide (aA < a0.Ports.length) then (a0.Ports[aA]?).bind fun aC=>(Ua aC).bind fun aB=>(bif (!decide (aB=.nil)) then (Zam ((aA : Nat) : Int) aB).bind fun aD=>some (.inr (.inr aD)) else some (.inl (aA + 1))) else some (.inr (.inl ())))
noncomputable def Gn (a0 : GPlan) : Option ErrM:=(bif decide (8 < a0.Ports.length) then some (.v Za7) else (Gk (Yi a0) 0).bind (fun q=>match q with | .inl _=>(bif (decide (a0.Events < 0) || decide (8 < a0.Events)) then some (.v Vn) else (bif decide (8 < a0.Sems.length) then some (.v Za7) else (Gk (Yh a0) 0).bind (fun q=>match q with | .inl _=>(Tj a0).bind fun aA=>(bif decide (4096 < aA) then some (.v Za7) else some .nil) | .inr p=>some p))) | .inr p=>some p))
noncomputable def Uc (a0 : GPlan) : Option ErrM:=(bif (decide (a0.Id < 0) || decide (2147483647 < a0.Id)) then some (.v Vn) else (Us a0).bind fun aA=>(bif (!decide (aA=.nil)) then some aA else (Ut a0).bind fun aB=>(bif (!decide (aB=.nil)) then some aB else (Gn a0).bind fun aC=>(bif (!decide (aC=.nil)) then some aC else some .nil))))
structure GWireWriter where
  buf_ : List UInt8
  err_ : ErrM
  deriving DecidableEq
noncomputable def Yd : Option GWireWriter:=some (⟨([] : List UInt8),.nil⟩ : GWireWriter)
noncomputable def Xt (a0 : List UInt8) : Option (List UInt8):=chk ((([] : List UInt8).length + a0.length) * 1 ≤ 140737488355328) (some (([] : List UInt8) ++ a0))
noncomputable def Kt (a0 : GWireWriter) : Option (List UInt8 × ErrM × GWireWriter):=(bif (!decide (a0.err_=.nil)) then some (([] : List UInt8),a0.err_,(⟨a0.buf_,a0.err_⟩ : GWireWriter)) else (Xt a0.buf_).bind fun aA=>some (aA,.nil,(⟨a0.buf_,a0.err_⟩ : GWireWriter)))
noncomputable def Xw (a0 : GWireWriter) (a1 : List UInt8) : Option GWireWriter:=(bif decide (a0.err_=.nil) then chk ((a0.buf_.length + a1.length) * 1 ≤ 140737488355328) (some (⟨(a0.buf_ ++ a1),a0.err_⟩ : GWireWriter)) else some (⟨a0.buf_,a0.err_⟩ : GWireWriter))
noncomputable def Yj (a0 : Int) : Option Int:=chk (0 ≤ (IntKind.i64.wrap (8 * a0))) (some (IntKind.i64.wrap ((shL .i64 1 (IntKind.i64.wrap (8 * a0))) - 1)))
noncomputable def Yu (a0 : Int) (a1 : ErrM) : Option ErrM:=(Zrg a0 a1).bind fun aA=>some aA
noncomputable def Wn (a0 : GWireWriter) (a1 : ErrM) : Option GWireWriter:=(bif decide (a0.err_=.nil) then (Yu ((a0.buf_.length : Nat) : Int) a1).bind fun aA=>some (⟨a0.buf_,aA⟩ : GWireWriter) else some (⟨a0.buf_,a0.err_⟩ : GWireWriter))
noncomputable def Jp (a1 : Int) : (Int × List UInt8 × ErrM) → Option ((Int × List UInt8 × ErrM) ⊕ (List UInt8 × ErrM)):=fun (aA,aB,aC)=>(bif decide (0 ≤ aA) then chk (0 ≤ (IntKind.i64.wrap (8 * aA))) ((Xw (⟨aB,aC⟩ : GWireWriter) [(Qz (shR .i64 a1 (IntKind.i64.wrap (8 * aA))))]).bind fun aD=>some (.inl ((IntKind.i64.wrap (aA - 1)),aD.buf_,aD.err_))) else some (.inr (aB,aC)))
noncomputable def Um (a0 : GWireWriter) (a1 : Int) (a2 : Int) : Bool → Option GWireWriter:=fun aB=>(bif aB then (Wn (⟨a0.buf_,a0.err_⟩ : GWireWriter) (.v Vn)).bind fun aA=>some (⟨aA.buf_,aA.err_⟩ : GWireWriter) else (Gk (Jp a1) ((IntKind.i64.wrap (a2 - 1)),a0.buf_,a0.err_)).bind (fun (aC,aD)=>some (⟨aC,aD⟩ : GWireWriter)))
noncomputable def Qs (a0 : GWireWriter) (a1 : Int) (a2 : Int) : Option GWireWriter:=(((bif decide (a1 < 0) then some true else (Yj a2).bind fun aA=>some (decide (aA < a1)))) : Option Bool).bind (fun p=>(Um a0 a1 a2) p)
noncomputable def Vt (a0 : GWireWriter) (a1 : Int) (a2 : List UInt8) : Bool → Option GWireWriter:=fun aF=>(bif aF then (Wn (⟨a0.buf_,a0.err_⟩ : GWireWriter) (.v Zok)).bind fun aA=>some (⟨aA.buf_,aA.err_⟩ : GWireWriter) else (bif decide (65535 < a2.length) then (Wn (⟨a0.buf_,a0.err_⟩ : GWireWriter) (.v Ur)).bind fun aB=>some (⟨aB.buf_,aB.err_⟩ : GWireWriter) else (Qs (⟨a0.buf_,a0.err_⟩ : GWireWriter) a1 1).bind fun aC=>(Qs (⟨aC.buf_,aC.err_⟩ : GWireWriter) ((a2.length : Nat) : Int) 2).bind fun aD=>(Xw (⟨aD.buf_,aD.err_⟩ : GWireWriter) a2).bind fun aE=>some (⟨aE.buf_,aE.err_⟩ : GWireWriter)))
noncomputable def Vo (a0 : GWireWriter) (a1 : Int) (a2 : List UInt8) : Option GWireWriter:=(((bif decide (a1 < 1) then some true else (Yj 1).bind fun aA=>some (decide (aA < a1)))) : Option Bool).bind (fun p=>(Vt a0 a1 a2) p)
noncomputable def Vu (a0 : GWireWriter) (a1 : Int) (a2 : GWireWriter → Option GWireWriter) : Option GWireWriter:=(Yd).bind fun aA=>(a2 (⟨aA.buf_,aA.err_⟩ : GWireWriter)).bind fun aB=>(Kt (⟨aB.buf_,aB.err_⟩ : GWireWriter)).bind fun aD=>(Vo (⟨a0.buf_,a0.err_⟩ : GWireWriter) a1 aD.1).bind fun aC=>some (⟨aC.buf_,aC.err_⟩ : GWireWriter)
noncomputable def Yk (a0 : GWireWriter) (a1 : List UInt8) : Option GWireWriter:=(Xw (⟨a0.buf_,a0.err_⟩ : GWireWriter) a1).bind fun aA=>some (⟨aA.buf_,aA.err_⟩ : GWireWriter)
noncomputable def Xj (a0 : GWireWriter) (a1 : Int) : Option GWireWriter:=(Qs (⟨a0.buf_,a0.err_⟩ : GWireWriter) a1 1).bind fun aA=>some (⟨aA.buf_,aA.err_⟩ : GWireWriter)
noncomputable def Vh (a0 : GWireWriter) (a1 : GPagePlan) : Option GWireWriter:=(Xj (⟨a0.buf_,a0.err_⟩ : GWireWriter) a1.Rights).bind fun aA=>chk (a1.Init.size ≤ 9223372036854775807) ((Yk (⟨aA.buf_,aA.err_⟩ : GWireWriter) a1.Init.data.toList).bind fun aB=>some (⟨aB.buf_,aB.err_⟩ : GWireWriter))
noncomputable def Yl (a0 : GWireWriter) (a1 : Int) : Option GWireWriter:=(Qs (⟨a0.buf_,a0.err_⟩ : GWireWriter) a1 4).bind fun aA=>some (⟨aA.buf_,aA.err_⟩ : GWireWriter)
noncomputable def Va (a0 : GWireWriter) (a1 : Bool) : Option GWireWriter:=(bif a1 then (Xw (⟨a0.buf_,a0.err_⟩ : GWireWriter) [(Qz 1)]).bind fun aA=>some (⟨aA.buf_,aA.err_⟩ : GWireWriter) else (Xw (⟨a0.buf_,a0.err_⟩ : GWireWriter) [(Qz 0)]).bind fun aB=>some (⟨aB.buf_,aB.err_⟩ : GWireWriter))
noncomputable def Vi (a0 : GWireWriter) (a1 : GProcPlan) : Option GWireWriter:=(Yl (⟨a0.buf_,a0.err_⟩ : GWireWriter) a1.Entry).bind fun aA=>(Xj (⟨aA.buf_,aA.err_⟩ : GWireWriter) a1.Prio).bind fun aB=>(Va (⟨aB.buf_,aB.err_⟩ : GWireWriter) a1.Auto).bind fun aC=>some (⟨aC.buf_,aC.err_⟩ : GWireWriter)
noncomputable def Vj (a0 : GWireWriter) (a1 : GPortPlan) : Option GWireWriter:=(Xj (⟨a0.buf_,a0.err_⟩ : GWireWriter) a1.Kind).bind fun aA=>(Xj (⟨aA.buf_,aA.err_⟩ : GWireWriter) a1.Size).bind fun aB=>(Xj (⟨aB.buf_,aB.err_⟩ : GWireWriter) a1.Depth).bind fun aC=>(Xj (⟨aC.buf_,aC.err_⟩ : GWireWriter) a1.Refresh).bind fun aD=>some (⟨aD.buf_,aD.err_⟩ : GWireWriter)
noncomputable def Vk (a0 : GWireWriter) (a1 : GPlan) : Option GWireWriter:=(Xj (⟨a0.buf_,a0.err_⟩ : GWireWriter) a1.Events).bind fun aA=>some (⟨aA.buf_,aA.err_⟩ : GWireWriter)
noncomputable def Ym (a1 : GPlan) : (Nat × List UInt8 × ErrM) → Option ((Nat × List UInt8 × ErrM) ⊕ (List UInt8 × ErrM)):=fun (aA,aB,aC)=>(bif decide (aA < a1.Sems.length) then (a1.Sems[aA]?).bind fun aE=>(Xj (⟨aB,aC⟩ : GWireWriter) aE).bind fun aD=>some (.inl (aA + 1,aD.buf_,aD.err_)) else some (.inr (aB,aC)))
noncomputable def Vl (a0 : GWireWriter) (a1 : GPlan) : Option GWireWriter:=(Gk (Ym a1) (0,a0.buf_,a0.err_)).bind (fun (aA,aB)=>some (⟨aA,aB⟩ : GWireWriter))
noncomputable def Wg (a0 : GPlan) : (Nat × List UInt8 × ErrM) → Option ((Nat × List UInt8 × ErrM) ⊕ (List UInt8 × ErrM)):=fun (aA,aC,aD)=>(bif decide (aA < a0.Ports.length) then (a0.Ports[aA]?).bind fun aE=>(Vu (⟨aC,aD⟩ : GWireWriter) 3 (fun x0=>Vj x0 aE)).bind fun aB=>some (.inl (aA + 1,aB.buf_,aB.err_)) else some (.inr (aC,aD)))
noncomputable def Wh (a0 : GPlan) : (Nat × List UInt8 × ErrM) → Option ((Nat × List UInt8 × ErrM) ⊕ (List UInt8 × ErrM)):=fun (aA,aB,aC)=>(bif decide (aA < a0.Procs.length) then (a0.Procs[aA]?).bind fun aE=>(Vu (⟨aB,aC⟩ : GWireWriter) 2 (fun x0=>Vi x0 aE)).bind fun aD=>some (.inl (aA + 1,aD.buf_,aD.err_)) else some (.inr (aB,aC)))
noncomputable def Wi (a0 : GPlan) : (Nat × List UInt8 × ErrM) → Option ((Nat × List UInt8 × ErrM) ⊕ (List UInt8 × ErrM)):=fun (aA,aB,aC)=>(bif decide (aA < a0.Pages.length) then (a0.Pages[aA]?).bind fun aE=>(Vu (⟨aB,aC⟩ : GWireWriter) 1 (fun x0=>Vh x0 aE)).bind fun aD=>some (.inl (aA + 1,aD.buf_,aD.err_)) else some (.inr (aB,aC)))
noncomputable def Hx (a0 : GPlan) : Option GWireWriter:=(Yd).bind fun aC=>(Gk (Wi a0) (0,aC.buf_,aC.err_)).bind (fun (aD,aE)=>(Gk (Wh a0) (0,aD,aE)).bind (fun (aF,aG)=>(Gk (Wg a0) (0,aF,aG)).bind (fun (aH,aI)=>(Vu (⟨aH,aI⟩ : GWireWriter) 4 (fun x0=>Vk x0 a0)).bind fun aA=>(Vu (⟨aA.buf_,aA.err_⟩ : GWireWriter) 5 (fun x0=>Vl x0 a0)).bind fun aB=>some (⟨aB.buf_,aB.err_⟩ : GWireWriter))))
noncomputable def Uv (a0 : GWireWriter) (a1 : Int) : Option GWireWriter:=(Qs (⟨a0.buf_,a0.err_⟩ : GWireWriter) a1 2).bind fun aA=>some (⟨aA.buf_,aA.err_⟩ : GWireWriter)
noncomputable def Zcm (a0 : Int) : Option Int:=(bif decide ((Zdl .u32 a0 1)=1) then some (Zci .u32 (shR .u32 a0 1) 3988292384) else some (shR .u32 a0 1))
noncomputable def Uh : (Int × Nat) → Option ((Int × Nat) ⊕ Int):=fun (aA,aB)=>(bif decide (aB < 8) then (Zcm aA).bind fun aC=>some (.inl (aC,aB + 1)) else some (.inr aA))
noncomputable def Ui : (Nat × Vector Int 256) → Option ((Nat × Vector Int 256) ⊕ (Vector Int 256)):=fun (aA,aB)=>(bif decide (aA < 256) then (Gk Uh ((IntKind.u32.wrap ((aA : Nat) : Int)),0)).bind (fun aC=>(rdV aB ((aA : Nat) : Int)).bind fun aD=>some (.inl (aA + 1,(aB.setIfInBounds (((aA : Nat) : Int).toNat) aC)))) else some (.inr aB))
noncomputable def Zbk : Option (Vector Int 256):=(Gk Ui (0,#v[0,0,0,0,0,0,0,0,0,0,0,0,0,0,0,0,0,0,0,0,0,0,0,0,0,0,0,0,0,0,0,0,0,0,0,0,0,0,0,0,0,0,0,0,0,0,0,0,0,0,0,0,0,0,0,0,0,0,0,0,0,0,0,0,0,0,0,0,0,0,0,0,0,0,0,0,0,0,0,0,0,0,0,0,0,0,0,0,0,0,0,0,0,0,0,0,0,0,0,0,0,0,0,0,0,0,0,0,0,0,0,0,0,0,0,0,0,0,0,0,0,0,0,0,0,0,0,0,0,0,0,0,0,0,0,0,0,0,0,0,0,0,0,0,0,0,0,0,0,0,0,0,0,0,0,0,0,0,0,0,0,0,0,0,0,0,0,0,0,0,0,0,0,0,0,0,0,0,0,0,0,0,0,0,0,0,0,0,0,0,0,0,0,0,0,0,0,0,0,0,0,0,0,0,0,0,0,0,0,0,0,0,0,0,0,0,0,0,0,0,0,0,0,0,0,0,0,0,0,0,0,0,0,0,0,0,0,0,0,0,0,0,0,0,0,0,0,0,0,0,0,0,0,0,0,0])).bind (fun aA=>some aA)
noncomputable def Hq (a1 : List UInt8) (aC : Vector Int 256) : (Int × Nat) → Option ((Int × Nat) ⊕ Int):=fun (aA,aB)=>(bif decide (aB < a1.length) then (a1[aB]?).bind fun aD=>(rdV aC (Zci .u8 (IntKind.u8.wrap aA) (aD.toNat : Int))).bind fun aE=>some (.inl ((Zci .u32 aE (shR .u32 aA 8)),aB + 1)) else some (.inr aA))
noncomputable def Zbd (a0 : Int) (a1 : List UInt8) : Option Int:=(bif decide (a1.length=0) then some a0 else (Zbk).bind fun aA=>(Gk (Hq a1 aA) (a0,0)).bind (fun aB=>some aB))
noncomputable def Zd7 (a0 : Int) (a1 : List UInt8) : Option Int:=(Zbd (Ztj .u32 a0) a1).bind fun aA=>some (Ztj .u32 aA)
noncomputable def Zcn (a0 : List UInt8) : Option Int:=(Zd7 0 a0).bind fun aA=>some aA
noncomputable def Ge (a0 : List UInt8) : Option (List UInt8):=chk ((([] : List UInt8).length + a0.length) * 1 ≤ 140737488355328) (some (([] : List UInt8) ++ a0))
noncomputable def Zbe (a0 : Int) : Option (List UInt8):=some [(Qz a0),(Qz (shR .u32 a0 8)),(Qz (shR .u32 a0 16)),(Qz (shR .u32 a0 24))]
noncomputable def Zco (a0 : List UInt8) : Option (List UInt8):=(Ge a0).bind fun aA=>(Zcn a0).bind fun aC=>(Zbe aC).bind fun aB=>chk ((aA.length + aB.length) * 1 ≤ 140737488355328) (some (aA ++ aB))
noncomputable def Yv (a0 : GPlan) : Option (List UInt8 × ErrM):=(Uc a0).bind fun aL=>(bif (!decide (aL=.nil)) then some (([] : List UInt8),(.v Hp)) else (Hx a0).bind fun aE=>(Kt (⟨aE.buf_,aE.err_⟩ : GWireWriter)).bind fun aB=>(bif (!decide (aB.2.1=.nil)) then some (([] : List UInt8),aB.2.1) else (Yd).bind fun aF=>(Yk (⟨aF.buf_,aF.err_⟩ : GWireWriter) [(Qz 70),(Qz 80),(Qz 76),(Qz 78)]).bind fun aG=>(Uv (⟨aG.buf_,aG.err_⟩ : GWireWriter) 1).bind fun aH=>(Yl (⟨aH.buf_,aH.err_⟩ : GWireWriter) (IntKind.i64.wrap ((IntKind.i64.wrap (15 + ((aB.1.length : Nat) : Int))) + 4))).bind fun aI=>(Yl (⟨aI.buf_,aI.err_⟩ : GWireWriter) a0.Id).bind fun aJ=>(Va (⟨aJ.buf_,aJ.err_⟩ : GWireWriter) a0.Mobile).bind fun aC=>(Yk (⟨aC.buf_,aC.err_⟩ : GWireWriter) aB.1).bind fun aD=>(Kt (⟨aD.buf_,aD.err_⟩ : GWireWriter)).bind fun aA=>(bif (!decide (aA.2.1=.nil)) then some (([] : List UInt8),aA.2.1) else (Zco aA.1).bind fun aK=>some (aK,.nil))))
noncomputable def Ha (a0 : List Int) : Option (List Int):=chk ((([] : List Int).length + a0.length) * 8 ≤ 140737488355328) (some (([] : List Int) ++ a0))
structure GProc where
  Regs : Vector Int 16
  Pc : Int
  State : Int
  Prio : Int
  Wait : Int
  Obj : Int
  deriving DecidableEq
def Xf (x : GProc) : List Value:=x.Regs.toList.map (Value.int .u32) ++ [.int .u32 x.Pc,.int .i64 x.State,.int .i64 x.Prio,.int .i64 x.Wait,.int .i64 x.Obj]
theorem Xk (x : GProc) : (Xf x).length=21:=by simp [Xf]
theorem Zbf (x : GProc) : ∀ u ∈ Xf x,u.oneCell' = true:=by
  intro u hu
  simp only [Xf,List.mem_append,List.mem_cons,List.mem_map,List.not_mem_nil,or_false] at hu
  rcases hu with (⟨_,_,rfl⟩) | (rfl|rfl|rfl|rfl|rfl) <;> rfl
structure GTimer where
  Proc : Int
  Due : Int
  deriving DecidableEq
def Jq (x : GTimer) : List Value:=[.int .i64 x.Proc,.int .i64 x.Due]
theorem Zmn (x : GTimer) : ∀ u ∈ Jq x,u.oneCell' = true:=by
  intro u hu
  simp only [Jq,List.mem_append,List.mem_cons,List.mem_map,List.not_mem_nil,or_false] at hu
  rcases hu with rfl|rfl <;> rfl
structure GPort where
  Msgs : List ByteArray
  Age : Int
  deriving DecidableEq
def Qe (w : World) (cs : List Value) (x : GPort) : Prop:=∃ v0,cs=[v0,.int .i64 x.Age] ∧ SlR w 1 (Zi eS) v0 x.Msgs
theorem Qe.mono : Zmg Qe:=by
  intro w w' cs x e h
  obtain⟨v0,rfl,h0⟩:=h
  exact⟨v0,rfl,h0.agr (Zi.mono _) e⟩
structure GPage where
  Rights : Int
  Dirty : Bool
  Data : Vector UInt8 64
  deriving DecidableEq
def Jr (x : GPage) : List Value:=[.int .i64 x.Rights,.bool x.Dirty] ++ x.Data.toList.map (fun b : UInt8=>Value.int .u8 (b.toNat : Int))
theorem Kz (x : GPage) : (Jr x).length=66:=by simp [Jr]
theorem Zf3 (x : GPage) : ∀ u ∈ Jr x,u.oneCell' = true:=by
  intro u hu
  simp only [Jr,List.mem_append,List.mem_cons,List.mem_map,List.not_mem_nil,or_false] at hu
  rcases hu with (rfl|rfl) | (⟨_,_,rfl⟩) <;> rfl
structure GState where
  Id : Int
  Frame : Int
  Epoch : Int
  Procs : List GProc
  Ready : List Int
  Timers : List GTimer
  Up : List Bool
  Sems : List Int
  Ports : List GPort
  Pages : List GPage
  deriving DecidableEq
def Hg (w : World) (cs : List Value) (x : GState) : Prop:=∃ v0 v1 v2 v3 v4 v5 v6,cs=[.int .i64 x.Id,.int .i64 x.Frame,.int .i64 x.Epoch,v0,v1,v2,v3,v4,v5,v6] ∧ SlR w 21 (Zi Xf) v0 x.Procs ∧ SlR w 1 (Zi eI) v1 x.Ready ∧ SlR w 2 (Zi Jq) v2 x.Timers ∧ SlR w 1 (Zi eF) v3 x.Up ∧ SlR w 1 (Zi eI) v4 x.Sems ∧ SlR w 2 Qe v5 x.Ports ∧ SlR w 66 (Zi Jr) v6 x.Pages
theorem Hg.mono : Zmg Hg:=by
  intro w w' cs x e h
  obtain⟨v0,v1,v2,v3,v4,v5,v6,rfl,h0,h1,h2,h3,h4,h5,h6⟩:=h
  exact⟨v0,v1,v2,v3,v4,v5,v6,rfl,h0.agr (Zi.mono _) e,h1.agr (Zi.mono _) e,h2.agr (Zi.mono _) e,h3.agr (Zi.mono _) e,h4.agr (Zi.mono _) e,h5.agr Qe.mono e,h6.agr (Zi.mono _) e⟩
noncomputable def Zag (aD : Nat) (aB : List GProc) : (List Int × GProc) → Option ((Nat × List GProc × List Int) ⊕ (List GProc × List Int)):=fun (aC,aA)=>chk ((aB.length + [aA].length) * 104 ≤ 140737488355328) (some (.inl (aD + 1,(aB ++ [aA]),aC)))
noncomputable def Gs (a0 : GPlan) : (Nat × List GPage) → Option ((Nat × List GPage) ⊕ (List GPage)):=fun (aB,aC)=>(bif decide (aB < a0.Pages.length) then (a0.Pages[aB]?).bind fun aA=>chk ((aC.length + [(⟨aA.Rights,false,(Zq4 (Vector.replicate 64 0) aA.Init)⟩ : GPage)].length) * 80 ≤ 140737488355328) (some (.inl (aB + 1,(aC ++ [(⟨aA.Rights,false,(Zq4 (Vector.replicate 64 0) aA.Init)⟩ : GPage)])))) else some (.inr aC))
noncomputable def Gt (a0 : GPlan) : (Nat × List GProc × List Int) → Option ((Nat × List GProc × List Int) ⊕ (List GProc × List Int)):=fun (aA,aD,aC)=>(bif decide (aA < a0.Procs.length) then (a0.Procs[aA]?).bind fun aB=>(((bif aB.Auto then chk ((aC.length + [((aA : Nat) : Int)].length) * 8 ≤ 140737488355328) (some ((aC ++ [((aA : Nat) : Int)]),(⟨(Vector.replicate 16 0),(IntKind.u32.wrap aB.Entry),1,aB.Prio,0,0⟩ : GProc))) else some (aC,(⟨(Vector.replicate 16 0),(IntKind.u32.wrap aB.Entry),0,aB.Prio,0,0⟩ : GProc)))) : Option (List Int × GProc)).bind (fun p=>(Zag aA aD) p) else some (.inr (aD,aC)))
noncomputable def Zah (a0 : GPlan) : (List Bool × List Int × List GPort) → Option (GState × ErrM):=fun (aB,aC,aD)=>(Gk (Gt a0) (0,([] : List GProc),([] : List Int))).bind (fun (aE,aF)=>(Gk (Gs a0) (0,([] : List GPage))).bind (fun aA=>some ((⟨a0.Id,0,0,aE,aF,([] : List GTimer),aB,aC,aD,aA⟩ : GState),.nil)))
noncomputable def Gf (a0 : GPlan) : Option (GState × ErrM):=(Uc a0).bind fun aB=>(bif (!decide (aB=.nil)) then some ((⟨0,0,0,([] : List GProc),([] : List Int),([] : List GTimer),([] : List Bool),([] : List Int),([] : List GPort),([] : List GPage)⟩ : GState),(.v Hp)) else ((chk (0 ≤ a0.Events) (chk (a0.Events.toNat * 1 ≤ 140737488355328) ((Ha a0.Sems).bind fun aA=>chk (a0.Ports.length * 32 ≤ 140737488355328) (some ((List.replicate a0.Events.toNat false),aA,(List.replicate a0.Ports.length (⟨([] : List ByteArray),0⟩ : GPort))))))) : Option (List Bool × List Int × List GPort)).bind (fun p=>(Zah a0) p))
noncomputable def Tk (a0 : GPlan) : Option (Int × ErrM):=(Uc a0).bind fun aA=>(bif (!decide (aA=.nil)) then some (0,(.v Hp)) else (Tj a0).bind fun aB=>some (aB,.nil))
structure GR10Err where
  Code : Int
  Place : Int
  deriving DecidableEq
noncomputable def Tr (a0 : List UInt8) (a1 : List UInt8) : Option Bool:=some (decide ((Zge a0)=(Zge a1)))
noncomputable def Zab (a0 : List UInt8) : Option (List UInt8 × ErrM):=(bif decide (a0.length < 4) then some (([] : List UInt8),(.v Wz)) else chk (0 ≤ (IntKind.i64.wrap (((a0.length : Nat) : Int) - 4)) ∧ (IntKind.i64.wrap (((a0.length : Nat) : Int) - 4)) ≤ a0.length) (chk (0 ≤ (((a0.take (IntKind.i64.wrap (((a0.length : Nat) : Int) - 4)).toNat).length : Nat) : Int) ∧ (((a0.take (IntKind.i64.wrap (((a0.length : Nat) : Int) - 4)).toNat).length : Nat) : Int) ≤ ((a0.length : Nat) : Int) ∧ ((a0.length : Nat) : Int) ≤ ((a0.length : Nat) : Int)) ((Zcn (a0.take (IntKind.i64.wrap (((a0.length : Nat) : Int) - 4)).toNat)).bind fun aA=>(Zbe aA).bind fun aB=>(Tr aB ((a0.drop (((a0.take (IntKind.i64.wrap (((a0.length : Nat) : Int) - 4)).toNat).length : Nat) : Int).toNat).take (((a0.length : Nat) : Int).toNat - (((a0.take (IntKind.i64.wrap (((a0.length : Nat) : Int) - 4)).toNat).length : Nat) : Int).toNat))).bind fun aC=>(bif (!aC) then some (([] : List UInt8),(.v gSum)) else (Ge (a0.take (IntKind.i64.wrap (((a0.length : Nat) : Int) - 4)).toNat)).bind fun aD=>some (aD,.nil)))))
structure GWireCursor where
  b_ : List UInt8
  at_ : Int
  bound_ : Int
  deriving DecidableEq
def Zgh (w : World) (cs : List Value) (x : GWireCursor) : Prop:=∃ v0,cs=[v0,.int .i64 x.at_,.int .i64 x.bound_] ∧ SlR w 1 (Zi eB) v0 x.b_
theorem Zgh.mono : Zmg Zgh:=by
  intro w w' cs x e h
  obtain⟨v0,rfl,h0⟩:=h
  exact⟨v0,rfl,h0.agr (Zi.mono _) e⟩
noncomputable def Zbl (a0 : List UInt8) : Option GWireCursor:=(Xt a0).bind fun aA=>some (⟨aA,0,((a0.length : Nat) : Int)⟩ : GWireCursor)
noncomputable def Qv (a0 : GWireCursor) : Option (Int × GWireCursor):=some ((IntKind.i64.wrap (a0.bound_ - a0.at_)),(⟨a0.b_,a0.at_,a0.bound_⟩ : GWireCursor))
noncomputable def Xl (a0 : GWireCursor) (a1 : Int) : Option (List UInt8 × ErrM × GWireCursor):=(bif decide (a1 < 0) then some (([] : List UInt8),(.v gArg),(⟨a0.b_,a0.at_,a0.bound_⟩ : GWireCursor)) else (Qv (⟨a0.b_,a0.at_,a0.bound_⟩ : GWireCursor)).bind fun aA=>(bif decide (aA.1 < a1) then (Yu aA.2.at_ (.v Wz)).bind fun aB=>some (([] : List UInt8),aB,(⟨a0.b_,aA.2.at_,aA.2.bound_⟩ : GWireCursor)) else chk (0 ≤ aA.2.at_ ∧ aA.2.at_ ≤ (IntKind.i64.wrap (aA.2.at_ + a1)) ∧ (IntKind.i64.wrap (aA.2.at_ + a1)) ≤ ((a0.b_.length : Nat) : Int)) ((Xt ((a0.b_.drop aA.2.at_.toNat).take ((IntKind.i64.wrap (aA.2.at_ + a1)).toNat - aA.2.at_.toNat))).bind fun aC=>some (aC,.nil,(⟨a0.b_,(IntKind.i64.wrap (aA.2.at_ + a1)),aA.2.bound_⟩ : GWireCursor)))))
noncomputable def Xp (a0 : GWireCursor) (a1 : Int) (a2 : Int) : (Int × Nat) → Option ((Int × Nat) ⊕ Int):=fun (aB,aA)=>(bif decide (aA < ((a0.b_.drop (IntKind.i64.wrap (a0.at_ + a1)).toNat).take ((IntKind.i64.wrap ((IntKind.i64.wrap (a0.at_ + a1)) + a2)).toNat - (IntKind.i64.wrap (a0.at_ + a1)).toNat)).length) then (((a0.b_.drop (IntKind.i64.wrap (a0.at_ + a1)).toNat).take ((IntKind.i64.wrap ((IntKind.i64.wrap (a0.at_ + a1)) + a2)).toNat - (IntKind.i64.wrap (a0.at_ + a1)).toNat))[aA]?).bind fun aC=>some (.inl ((bitOr .i64 (shL .i64 aB 8) (aC.toNat : Int)),aA + 1)) else some (.inr aB))
noncomputable def Xo (a0 : GWireCursor) (a1 : Int) (a2 : Int) : Option (Int × GWireCursor):=chk (0 ≤ (IntKind.i64.wrap (a0.at_ + a1)) ∧ (IntKind.i64.wrap (a0.at_ + a1)) ≤ (IntKind.i64.wrap ((IntKind.i64.wrap (a0.at_ + a1)) + a2)) ∧ (IntKind.i64.wrap ((IntKind.i64.wrap (a0.at_ + a1)) + a2)) ≤ ((a0.b_.length : Nat) : Int)) ((Gk (Xp a0 a1 a2) (0,0)).bind (fun aA=>some (aA,(⟨a0.b_,a0.at_,a0.bound_⟩ : GWireCursor))))
noncomputable def Qm (a0 : GWireCursor) (a1 : Int) (a2 : Int) (a3 : Int) : Option (Int × ErrM × GWireCursor):=(bif (((!decide (a1=1)) && (!decide (a1=2))) && (!decide (a1=4))) then some (0,(.v gArg),(⟨a0.b_,a0.at_,a0.bound_⟩ : GWireCursor)) else (Qv (⟨a0.b_,a0.at_,a0.bound_⟩ : GWireCursor)).bind fun aB=>(bif decide (aB.1 < a1) then (Yu aB.2.at_ (.v Wz)).bind fun aC=>some (0,aC,(⟨a0.b_,aB.2.at_,aB.2.bound_⟩ : GWireCursor)) else (Xo (⟨a0.b_,aB.2.at_,aB.2.bound_⟩ : GWireCursor) 0 a1).bind fun aA=>(bif (decide (aA.1 < a2) || decide (a3 < aA.1)) then (Yu aA.2.at_ (.v Vn)).bind fun aD=>some (0,aD,(⟨a0.b_,aA.2.at_,aA.2.bound_⟩ : GWireCursor)) else some (aA.1,.nil,(⟨a0.b_,(IntKind.i64.wrap (aA.2.at_ + a1)),aA.2.bound_⟩ : GWireCursor)))))
noncomputable def Yn (a0 : GWireCursor) : Option (Int × ErrM × GWireCursor):=(Yj 4).bind fun aB=>(Qm (⟨a0.b_,a0.at_,a0.bound_⟩ : GWireCursor) 4 0 aB).bind fun aA=>some (aA.1,aA.2.1,(⟨a0.b_,aA.2.2.at_,aA.2.2.bound_⟩ : GWireCursor))
noncomputable def Vb (a0 : GWireCursor) : Option (Bool × ErrM × GWireCursor):=(Qm (⟨a0.b_,a0.at_,a0.bound_⟩ : GWireCursor) 1 0 1).bind fun aA=>some (decide (aA.1=1),aA.2.1,(⟨a0.b_,aA.2.2.at_,aA.2.2.bound_⟩ : GWireCursor))
noncomputable def Vc (a0 : GWireCursor) : Option (Int × Int × ErrM × GWireCursor):=(Qv (⟨a0.b_,a0.at_,a0.bound_⟩ : GWireCursor)).bind fun aA=>(bif decide (aA.1 < 3) then (Yu aA.2.at_ (.v Wz)).bind fun aD=>some (0,0,aD,(⟨a0.b_,aA.2.at_,aA.2.bound_⟩ : GWireCursor)) else (Xo (⟨a0.b_,aA.2.at_,aA.2.bound_⟩ : GWireCursor) 0 1).bind fun aB=>(Xo (⟨a0.b_,aB.2.at_,aB.2.bound_⟩ : GWireCursor) 1 2).bind fun aC=>some (aB.1,aC.1,.nil,(⟨a0.b_,aC.2.at_,aC.2.bound_⟩ : GWireCursor)))
noncomputable def Yo (a0 : GWireCursor) (a1 : Int) : Option (Option GWireCursor × ErrM × GWireCursor):=(Qv (⟨a0.b_,a0.at_,a0.bound_⟩ : GWireCursor)).bind fun aA=>(bif decide ((IntKind.i64.wrap (aA.1 - 3)) < a1) then (Yu (IntKind.i64.wrap (aA.2.at_ + 1)) (.v Ur)).bind fun aB=>some (none,aB,(⟨a0.b_,aA.2.at_,aA.2.bound_⟩ : GWireCursor)) else some (some (⟨a0.b_,(IntKind.i64.wrap (aA.2.at_ + 3)),(IntKind.i64.wrap ((IntKind.i64.wrap (aA.2.at_ + 3)) + a1))⟩ : GWireCursor),.nil,(⟨a0.b_,(IntKind.i64.wrap ((IntKind.i64.wrap (aA.2.at_ + 3)) + a1)),aA.2.bound_⟩ : GWireCursor)))
noncomputable def Js (a0 : GWireCursor) : Option (Int × Option GWireCursor × ErrM × GWireCursor):=(Vc (⟨a0.b_,a0.at_,a0.bound_⟩ : GWireCursor)).bind fun aA=>(bif (!decide (aA.2.2.1=.nil)) then some (0,none,aA.2.2.1,(⟨a0.b_,aA.2.2.2.at_,aA.2.2.2.bound_⟩ : GWireCursor)) else (bif decide (aA.1=0) then (Yu aA.2.2.2.at_ (.v Zok)).bind fun aC=>some (0,none,aC,(⟨a0.b_,aA.2.2.2.at_,aA.2.2.2.bound_⟩ : GWireCursor)) else (Yo (⟨a0.b_,aA.2.2.2.at_,aA.2.2.2.bound_⟩ : GWireCursor) aA.2.1).bind fun aB=>(bif (!decide (aB.2.1=.nil)) then some (0,none,aB.2.1,(⟨a0.b_,aB.2.2.at_,aB.2.2.bound_⟩ : GWireCursor)) else some (aA.1,aB.1,.nil,(⟨a0.b_,aB.2.2.at_,aB.2.2.bound_⟩ : GWireCursor)))))
noncomputable def Xv (a0 : GWireCursor) : Option (Int × ErrM × GWireCursor):=(Yj 1).bind fun aB=>(Qm (⟨a0.b_,a0.at_,a0.bound_⟩ : GWireCursor) 1 0 aB).bind fun aA=>some (aA.1,aA.2.1,(⟨a0.b_,aA.2.2.at_,aA.2.2.bound_⟩ : GWireCursor))
noncomputable def Hh (a0 : GWireCursor) : Option (GPagePlan × ErrM × GWireCursor):=(Xv (⟨a0.b_,a0.at_,a0.bound_⟩ : GWireCursor)).bind fun aA=>(bif (!decide (aA.2.1=.nil)) then some ((⟨0,⟨#[]⟩⟩ : GPagePlan),aA.2.1,(⟨a0.b_,aA.2.2.at_,aA.2.2.bound_⟩ : GWireCursor)) else (Qv (⟨a0.b_,aA.2.2.at_,aA.2.2.bound_⟩ : GWireCursor)).bind fun aC=>(Xl (⟨a0.b_,aC.2.at_,aC.2.bound_⟩ : GWireCursor) aC.1).bind fun aB=>some ((⟨aA.1,(Zge aB.1)⟩ : GPagePlan),aB.2.1,(⟨a0.b_,aB.2.2.at_,aB.2.2.bound_⟩ : GWireCursor)))
noncomputable def Jz (a0 : List (Value × ErrM)) : Nat → Option (Nat ⊕ (Unit ⊕ (Value × ErrM))):=fun aA=>(bif decide (aA < a0.length) then (a0[aA]?).bind fun aB=>(bif (!decide (aB.2=.nil)) then some (.inr (.inr (aB.1,aB.2))) else some (.inl (aA + 1))) else some (.inr (.inl ())))
noncomputable def Zdo (a0 : List (Value × ErrM)) : Option (Value × ErrM):=(Gk (Jz a0) 0).bind (fun q=>match q with | .inl _=>some (.nilIface,.nil) | .inr p=>some p)
noncomputable def Kg (a0 : GWireCursor) : Option (ErrM × GWireCursor):=(Qv (⟨a0.b_,a0.at_,a0.bound_⟩ : GWireCursor)).bind fun aA=>(bif decide (0 < aA.1) then (Yu aA.2.at_ (.v Zoj)).bind fun aB=>some (aB,(⟨a0.b_,aA.2.at_,aA.2.bound_⟩ : GWireCursor)) else some (.nil,(⟨a0.b_,aA.2.at_,aA.2.bound_⟩ : GWireCursor)))
noncomputable def Ta (a0 : GWireCursor) : Option (GProcPlan × ErrM × GWireCursor):=(Yn (⟨a0.b_,a0.at_,a0.bound_⟩ : GWireCursor)).bind fun aA=>(Xv (⟨a0.b_,aA.2.2.at_,aA.2.2.bound_⟩ : GWireCursor)).bind fun aB=>(Vb (⟨a0.b_,aB.2.2.at_,aB.2.2.bound_⟩ : GWireCursor)).bind fun aC=>(Kg (⟨a0.b_,aC.2.2.at_,aC.2.2.bound_⟩ : GWireCursor)).bind fun aD=>some ((⟨aA.1,aB.1,aC.1⟩ : GProcPlan),(Zgn [aA.2.1,aB.2.1,aC.2.1,aD.1]),(⟨a0.b_,aD.2.at_,aD.2.bound_⟩ : GWireCursor))
noncomputable def Gg (a0 : GWireCursor) : Option (GPortPlan × ErrM × GWireCursor):=(Xv (⟨a0.b_,a0.at_,a0.bound_⟩ : GWireCursor)).bind fun aA=>(Xv (⟨a0.b_,aA.2.2.at_,aA.2.2.bound_⟩ : GWireCursor)).bind fun aB=>(Xv (⟨a0.b_,aB.2.2.at_,aB.2.2.bound_⟩ : GWireCursor)).bind fun aC=>(Xv (⟨a0.b_,aC.2.2.at_,aC.2.2.bound_⟩ : GWireCursor)).bind fun aD=>(Kg (⟨a0.b_,aD.2.2.at_,aD.2.2.bound_⟩ : GWireCursor)).bind fun aE=>some ((⟨aA.1,aB.1,aC.1,aD.1⟩ : GPortPlan),(Zgn [aA.2.1,aB.2.1,aC.2.1,aD.2.1,aE.1]),(⟨a0.b_,aE.2.at_,aE.2.bound_⟩ : GWireCursor))
noncomputable def Gh (aC : List UInt8 × ErrM × GWireCursor) : (Nat × List Int) → Option ((Nat × List Int) ⊕ (List Int)):=fun (aA,aB)=>(bif decide (aA < aC.1.length) then (aC.1[aA]?).bind fun aD=>chk ((aB.length + [(aD.toNat : Int)].length) * 8 ≤ 140737488355328) (some (.inl (aA + 1,(aB ++ [(aD.toNat : Int)])))) else some (.inr aB))
noncomputable def Kh (a0 : GPlan) (a1 : Int) (a2 : GWireCursor) : Option (ErrM × GPlan × GWireCursor):=(bif decide (a1=1) then (Hh (⟨a2.b_,a2.at_,a2.bound_⟩ : GWireCursor)).bind fun aC=>chk ((a0.Pages.length + [aC.1].length) * 24 ≤ 140737488355328) (some (aC.2.1,(⟨a0.Id,a0.Mobile,(a0.Pages ++ [aC.1]),a0.Procs,a0.Ports,a0.Events,a0.Sems⟩ : GPlan),(⟨a2.b_,aC.2.2.at_,aC.2.2.bound_⟩ : GWireCursor))) else (bif decide (a1=2) then (Ta (⟨a2.b_,a2.at_,a2.bound_⟩ : GWireCursor)).bind fun aD=>chk ((a0.Procs.length + [aD.1].length) * 24 ≤ 140737488355328) (some (aD.2.1,(⟨a0.Id,a0.Mobile,a0.Pages,(a0.Procs ++ [aD.1]),a0.Ports,a0.Events,a0.Sems⟩ : GPlan),(⟨a2.b_,aD.2.2.at_,aD.2.2.bound_⟩ : GWireCursor))) else (bif decide (a1=3) then (Gg (⟨a2.b_,a2.at_,a2.bound_⟩ : GWireCursor)).bind fun aE=>chk ((a0.Ports.length + [aE.1].length) * 32 ≤ 140737488355328) (some (aE.2.1,(⟨a0.Id,a0.Mobile,a0.Pages,a0.Procs,(a0.Ports ++ [aE.1]),a0.Events,a0.Sems⟩ : GPlan),(⟨a2.b_,aE.2.2.at_,aE.2.2.bound_⟩ : GWireCursor))) else (bif decide (a1=4) then (Xv (⟨a2.b_,a2.at_,a2.bound_⟩ : GWireCursor)).bind fun aA=>(Kg (⟨a2.b_,aA.2.2.at_,aA.2.2.bound_⟩ : GWireCursor)).bind fun aF=>some ((Zgn [aA.2.1,aF.1]),(⟨a0.Id,a0.Mobile,a0.Pages,a0.Procs,a0.Ports,aA.1,a0.Sems⟩ : GPlan),(⟨a2.b_,aF.2.at_,aF.2.bound_⟩ : GWireCursor)) else (bif decide (a1=5) then (Qv (⟨a2.b_,a2.at_,a2.bound_⟩ : GWireCursor)).bind fun aG=>(Xl (⟨a2.b_,aG.2.at_,aG.2.bound_⟩ : GWireCursor) aG.1).bind fun aB=>(Gk (Gh aB) (0,a0.Sems)).bind (fun aH=>some (aB.2.1,(⟨a0.Id,a0.Mobile,a0.Pages,a0.Procs,a0.Ports,a0.Events,aH⟩ : GPlan),(⟨a2.b_,aB.2.2.at_,aB.2.2.bound_⟩ : GWireCursor))) else some ((.v Zok),(⟨a0.Id,a0.Mobile,a0.Pages,a0.Procs,a0.Ports,a0.Events,a0.Sems⟩ : GPlan),(⟨a2.b_,a2.at_,a2.bound_⟩ : GWireCursor)))))))
noncomputable def Ju (a0 : List UInt8) (a1 : List UInt8) : Nat → Option (Nat ⊕ (Unit ⊕ Bool)):=fun aA=>(bif decide (aA < a0.length) then (a0[aA]?).bind fun aB=>(a1[aA]?).bind fun aC=>(bif (!decide ((aB.toNat : Int)=(aC.toNat : Int))) then some (.inr (.inr false)) else some (.inl (aA + 1))) else some (.inr (.inl ())))
noncomputable def Ke (a0 : List UInt8) (a1 : List UInt8) : Option Bool:=(bif (!decide (a0.length=a1.length)) then some false else (Gk (Ju a0 a1) 0).bind (fun q=>match q with | .inl _=>some true | .inr p=>some p))
noncomputable def We (aB : Int) (aC : Bool) (aD : List GPagePlan) (aE : List GProcPlan) (aF : List GPortPlan) (aG : Int) (aH : List Int) : Bool → Option (GPlan × ErrM):=fun aA=>(bif aA then some ((⟨0,false,([] : List GPagePlan),([] : List GProcPlan),([] : List GPortPlan),0,([] : List Int)⟩ : GPlan),(.v Hp)) else some ((⟨aB,aC,aD,aE,aF,aG,aH⟩ : GPlan),.nil))
noncomputable def Uj (aK : GWireCursor) (aL : ErrM) (aC : Int) (aD : Bool) (aE : List GPagePlan) (aF : List GProcPlan) (aG : List GPortPlan) (aH : Int) (aI : List Int) : (Bool × Int × Int) → Option ((ErrM × Int × Int × Int × Bool × List GPagePlan × List GProcPlan × List GPortPlan × Int × List Int) ⊕ (ErrM × Int × Bool × List GPagePlan × List GProcPlan × List GPortPlan × Int × List Int)):=fun (aM,aN,aO)=>(bif aM then (Js (⟨aK.b_,aN,aO⟩ : GWireCursor)).bind fun aA=>(bif decide (aA.2.2.1=.nil) then (aA.2.1).bind fun aJ=>(Kh (⟨aC,aD,aE,aF,aG,aH,aI⟩ : GPlan) aA.1 (⟨aK.b_,aJ.at_,aJ.bound_⟩ : GWireCursor)).bind fun aB=>some (.inl (aB.1,aA.2.2.2.at_,aA.2.2.2.bound_,aB.2.1.Id,aB.2.1.Mobile,aB.2.1.Pages,aB.2.1.Procs,aB.2.1.Ports,aB.2.1.Events,aB.2.1.Sems)) else some (.inl (aA.2.2.1,aA.2.2.2.at_,aA.2.2.2.bound_,aC,aD,aE,aF,aG,aH,aI))) else some (.inr (aL,aC,aD,aE,aF,aG,aH,aI)))
noncomputable def Qw (aE : GWireCursor) : (ErrM × Int × Int × Int × Bool × List GPagePlan × List GProcPlan × List GPortPlan × Int × List Int) → Option ((ErrM × Int × Int × Int × Bool × List GPagePlan × List GProcPlan × List GPortPlan × Int × List Int) ⊕ (ErrM × Int × Bool × List GPagePlan × List GProcPlan × List GPortPlan × Int × List Int)):=fun (aB,aC,aD,aF,aG,aH,aI,aJ,aK,aL)=>(((bif decide (aB=.nil) then (Qv (⟨aE.b_,aC,aD⟩ : GWireCursor)).bind fun aA=>some (decide (0 < aA.1),aA.2.at_,aA.2.bound_) else some (false,aC,aD))) : Option (Bool × Int × Int)).bind (fun p=>(Uj aE aB aF aG aH aI aJ aK aL) p)
noncomputable def Ku (a0 : List UInt8) : Option (GPlan × ErrM):=(Zab a0).bind fun aB=>(bif (!decide (aB.2=.nil)) then some ((⟨0,false,([] : List GPagePlan),([] : List GProcPlan),([] : List GPortPlan),0,([] : List Int)⟩ : GPlan),aB.2) else (bif decide (aB.1.length < 15) then some ((⟨0,false,([] : List GPagePlan),([] : List GProcPlan),([] : List GPortPlan),0,([] : List Int)⟩ : GPlan),(.v Wz)) else chk (0 ≤ (6 : Int) ∧ (6 : Int) ≤ aB.1.length) ((bif (!decide ((Zge (aB.1.take (6 : Int).toNat))=⟨#[70,80,76,78,0,1]⟩)) then some ((⟨0,false,([] : List GPagePlan),([] : List GProcPlan),([] : List GPortPlan),0,([] : List Int)⟩ : GPlan),(.v Zju)) else (Zbl aB.1).bind fun aA=>(Xl (⟨aA.b_,aA.at_,aA.bound_⟩ : GWireCursor) 6).bind fun aO=>(Yn (⟨aA.b_,aO.2.2.at_,aO.2.2.bound_⟩ : GWireCursor)).bind fun aE=>(bif (!decide (aE.1=((a0.length : Nat) : Int))) then some ((⟨0,false,([] : List GPagePlan),([] : List GProcPlan),([] : List GPortPlan),0,([] : List Int)⟩ : GPlan),(.v Ur)) else (Yn (⟨aA.b_,aE.2.2.at_,aE.2.2.bound_⟩ : GWireCursor)).bind fun aD=>(Vb (⟨aA.b_,aD.2.2.at_,aD.2.2.bound_⟩ : GWireCursor)).bind fun aC=>(Gk (Qw aA) (aC.2.1,aC.2.2.at_,aC.2.2.bound_,aD.1,aC.1,([] : List GPagePlan),([] : List GProcPlan),([] : List GPortPlan),0,([] : List Int))).bind (fun (aP,aF,aG,aH,aI,aJ,aK,aL)=>(bif (!decide (aP=.nil)) then some ((⟨0,false,([] : List GPagePlan),([] : List GProcPlan),([] : List GPortPlan),0,([] : List Int)⟩ : GPlan),(.v Hp)) else (Yv (⟨aF,aG,aH,aI,aJ,aK,aL⟩ : GPlan)).bind fun aM=>(((bif (!decide (aM.2=.nil)) then some true else (Ke aM.1 a0).bind fun aN=>some (!aN))) : Option Bool).bind (fun p=>(We aF aG aH aI aJ aK aL) p))))))))
theorem Zjv (x y : GPagePlan) : Zns Tryz.prog 114 2 (.agg (Zw x).toArray) (.agg (Zw y).toArray) (decide (x=y)):=by
  have h:=Zew (m:=1) st114 (Tn (Vs (cs:=Zw x) (v:=Value.int .i64 x.Rights) ag3 rfl) (Vs (cs:=Zw y) (v:=Value.int .i64 y.Rights) ag3 rfl) ((Zcu Tryz.underlying3).mono (by omega)) (Tn (Vs (cs:=Zw x) (v:=Value.string x.Init) ag9 rfl) (Vs (cs:=Zw y) (v:=Value.string y.Init) ag9 rfl) ((Zmi Tryz.underlying9).mono (by omega)) Zjn))
  have e : decide (x=y)=(decide (x.Rights=y.Rights) && (decide (x.Init=y.Init) && true)):=by
    cases x;cases y;simp [Bool.decide_and]
  rw [e];exact h
theorem Zjw (x y : GProcPlan) : Zns Tryz.prog 116 2 (.agg (Zs x).toArray) (.agg (Zs y).toArray) (decide (x=y)):=by
  have h:=Zew (m:=1) st116 (Tn (Vs (cs:=Zs x) (v:=Value.int .i64 x.Entry) ag3 rfl) (Vs (cs:=Zs y) (v:=Value.int .i64 y.Entry) ag3 rfl) ((Zcu Tryz.underlying3).mono (by omega)) (Tn (Vs (cs:=Zs x) (v:=Value.int .i64 x.Prio) ag3 rfl) (Vs (cs:=Zs y) (v:=Value.int .i64 y.Prio) ag3 rfl) ((Zcu Tryz.underlying3).mono (by omega)) (Tn (Vs (cs:=Zs x) (v:=Value.bool x.Auto) ag4 rfl) (Vs (cs:=Zs y) (v:=Value.bool y.Auto) ag4 rfl) ((Zpf Tryz.underlying4).mono (by omega)) Zjn)))
  have e : decide (x=y)=(decide (x.Entry=y.Entry) && (decide (x.Prio=y.Prio) && (decide (x.Auto=y.Auto) && true))):=by
    cases x;cases y;simp [Bool.decide_and]
  rw [e];exact h
theorem Zjx (x y : GPortPlan) : Zns Tryz.prog 118 2 (.agg (Zp x).toArray) (.agg (Zp y).toArray) (decide (x=y)):=by
  have h:=Zew (m:=1) st118 (Tn (Vs (cs:=Zp x) (v:=Value.int .i64 x.Kind) ag3 rfl) (Vs (cs:=Zp y) (v:=Value.int .i64 y.Kind) ag3 rfl) ((Zcu Tryz.underlying3).mono (by omega)) (Tn (Vs (cs:=Zp x) (v:=Value.int .i64 x.Size) ag3 rfl) (Vs (cs:=Zp y) (v:=Value.int .i64 y.Size) ag3 rfl) ((Zcu Tryz.underlying3).mono (by omega)) (Tn (Vs (cs:=Zp x) (v:=Value.int .i64 x.Depth) ag3 rfl) (Vs (cs:=Zp y) (v:=Value.int .i64 y.Depth) ag3 rfl) ((Zcu Tryz.underlying3).mono (by omega)) (Tn (Vs (cs:=Zp x) (v:=Value.int .i64 x.Refresh) ag3 rfl) (Vs (cs:=Zp y) (v:=Value.int .i64 y.Refresh) ag3 rfl) ((Zcu Tryz.underlying3).mono (by omega)) Zjn))))
  have e : decide (x=y)=(decide (x.Kind=y.Kind) && (decide (x.Size=y.Size) && (decide (x.Depth=y.Depth) && (decide (x.Refresh=y.Refresh) && true)))):=by
    cases x;cases y;simp [Bool.decide_and]
  rw [e];exact h
structure GL10Case where
  P : GPlan
  Q : GPlan
  B : List UInt8
  At : Int
  Mask : Int
  deriving DecidableEq
def Zkz (w : World) (cs : List Value) (x : GL10Case) : Prop:=∃ v0 v1 v2 v3 v4 v5 v6 v7 v8,cs=[.int .i64 x.P.Id,.bool x.P.Mobile,v0,v1,v2,.int .i64 x.P.Events,v3,.int .i64 x.Q.Id,.bool x.Q.Mobile,v4,v5,v6,.int .i64 x.Q.Events,v7,v8,.int .i64 x.At,.int .u32 x.Mask] ∧ SlR w 2 (Zi Zw) v0 x.P.Pages ∧ SlR w 3 (Zi Zs) v1 x.P.Procs ∧ SlR w 4 (Zi Zp) v2 x.P.Ports ∧ SlR w 1 (Zi eI) v3 x.P.Sems ∧ SlR w 2 (Zi Zw) v4 x.Q.Pages ∧ SlR w 3 (Zi Zs) v5 x.Q.Procs ∧ SlR w 4 (Zi Zp) v6 x.Q.Ports ∧ SlR w 1 (Zi eI) v7 x.Q.Sems ∧ SlR w 1 (Zi eB) v8 x.B
theorem Zkz.mono : Zmg Zkz:=by
  intro w w' cs x e h
  obtain⟨v0,v1,v2,v3,v4,v5,v6,v7,v8,rfl,h0,h1,h2,h3,h4,h5,h6,h7,h8⟩:=h
  exact⟨v0,v1,v2,v3,v4,v5,v6,v7,v8,rfl,h0.agr (Zi.mono _) e,h1.agr (Zi.mono _) e,h2.agr (Zi.mono _) e,h3.agr (Zi.mono _) e,h4.agr (Zi.mono _) e,h5.agr (Zi.mono _) e,h6.agr (Zi.mono _) e,h7.agr (Zi.mono _) e,h8.agr (Zi.mono _) e⟩
noncomputable def Xq (a0 : List GPagePlan) (a1 : List GPagePlan) : Nat → Option (Nat ⊕ (Unit ⊕ Bool)):=fun aA=>(bif decide (aA < a0.length) then (a0[aA]?).bind fun aB=>(a1[aA]?).bind fun aC=>(bif (!decide (aB=aC)) then some (.inr (.inr false)) else some (.inl (aA + 1))) else some (.inr (.inl ())))
noncomputable def Jh (a0 : List GPagePlan) (a1 : List GPagePlan) : Option Bool:=(bif (!decide (a0.length=a1.length)) then some false else (Gk (Xq a0 a1) 0).bind (fun q=>match q with | .inl _=>some true | .inr p=>some p))
noncomputable def Xr (a0 : List GProcPlan) (a1 : List GProcPlan) : Nat → Option (Nat ⊕ (Unit ⊕ Bool)):=fun aA=>(bif decide (aA < a0.length) then (a0[aA]?).bind fun aB=>(a1[aA]?).bind fun aC=>(bif (!decide (aB=aC)) then some (.inr (.inr false)) else some (.inl (aA + 1))) else some (.inr (.inl ())))
noncomputable def Ji (a0 : List GProcPlan) (a1 : List GProcPlan) : Option Bool:=(bif (!decide (a0.length=a1.length)) then some false else (Gk (Xr a0 a1) 0).bind (fun q=>match q with | .inl _=>some true | .inr p=>some p))
noncomputable def Xs (a0 : List GPortPlan) (a1 : List GPortPlan) : Nat → Option (Nat ⊕ (Unit ⊕ Bool)):=fun aA=>(bif decide (aA < a0.length) then (a0[aA]?).bind fun aB=>(a1[aA]?).bind fun aC=>(bif (!decide (aB=aC)) then some (.inr (.inr false)) else some (.inl (aA + 1))) else some (.inr (.inl ())))
noncomputable def Jj (a0 : List GPortPlan) (a1 : List GPortPlan) : Option Bool:=(bif (!decide (a0.length=a1.length)) then some false else (Gk (Xs a0 a1) 0).bind (fun q=>match q with | .inl _=>some true | .inr p=>some p))
noncomputable def Ki (a0 : List Int) (a1 : List Int) : Nat → Option (Nat ⊕ (Unit ⊕ Bool)):=fun aA=>(bif decide (aA < a0.length) then (a0[aA]?).bind fun aB=>(a1[aA]?).bind fun aC=>(bif (!decide (aB=aC)) then some (.inr (.inr false)) else some (.inl (aA + 1))) else some (.inr (.inl ())))
noncomputable def Vd (a0 : List Int) (a1 : List Int) : Option Bool:=(bif (!decide (a0.length=a1.length)) then some false else (Gk (Ki a0 a1) 0).bind (fun q=>match q with | .inl _=>some true | .inr p=>some p))
noncomputable def Zbm (a0 : GPlan) (a1 : GPlan) : Option Bool:=(bif decide (a0.Id=a1.Id) then (bif (a0.Mobile == a1.Mobile) then (bif decide (a0.Events=a1.Events) then (Jh a0.Pages a1.Pages).bind fun aA=>(bif aA then (Ji a0.Procs a1.Procs).bind fun aB=>(bif aB then (Jj a0.Ports a1.Ports).bind fun aC=>(bif aC then (Vd a0.Sems a1.Sems).bind fun aD=>some aD else some false) else some false) else some false) else some false) else some false) else some false)
noncomputable def Ub (a0 : Int) (a1 : Int) (a2 : Int) (a3 : Int) : Option ByteArray:=some (Zge [(Qz a0),(Qz (IntKind.i64.wrap ((IntKind.i64.wrap (a1 * 16)) + a2))),(Qz (IntKind.i64.wrap (Int.tdiv (Zdl .i64 a3 65535) 256))),(Qz (Int.tmod (Zdl .i64 a3 65535) 256))])
noncomputable def Zac : Option GPlan:=(Ub 16 4 0 7).bind fun aA=>(Ub 37 4 0 64).bind fun aB=>chk (aA.size + aB.size ≤ 9223372036854775807) ((Ub 16 1 0 0).bind fun aC=>chk ((aA ++ aB).size + aC.size ≤ 9223372036854775807) ((Ub 16 2 0 64).bind fun aD=>chk (((aA ++ aB) ++ aC).size + aD.size ≤ 9223372036854775807) ((Ub 16 3 0 1).bind fun aE=>chk ((((aA ++ aB) ++ aC) ++ aD).size + aE.size ≤ 9223372036854775807) ((Ub 64 0 0 13).bind fun aF=>chk (((((aA ++ aB) ++ aC) ++ aD) ++ aE).size + aF.size ≤ 9223372036854775807) ((Ub 16 1 0 41).bind fun aG=>chk ((((((aA ++ aB) ++ aC) ++ aD) ++ aE) ++ aF).size + aG.size ≤ 9223372036854775807) ((Ub 64 0 0 3).bind fun aH=>chk (((((((aA ++ aB) ++ aC) ++ aD) ++ aE) ++ aF) ++ aG).size + aH.size ≤ 9223372036854775807) ((Ub 48 0 0 (-9)).bind fun aI=>chk ((((((((aA ++ aB) ++ aC) ++ aD) ++ aE) ++ aF) ++ aG) ++ aH).size + aI.size ≤ 9223372036854775807) (some (⟨0,true,[(⟨5,((((((((aA ++ aB) ++ aC) ++ aD) ++ aE) ++ aF) ++ aG) ++ aH) ++ aI)⟩ : GPagePlan),(⟨3,⟨#[]⟩⟩ : GPagePlan)],[(⟨0,1,true⟩ : GProcPlan)],[(⟨2,1,1,0⟩ : GPortPlan)],0,([] : List Int)⟩ : GPlan)))))))))
noncomputable def Je (a0 : Int) (a1 : Int) (a2 : Int) : Option Bool:=some (decide (a1 ≤ a0) && decide (a0 ≤ a2))
structure GValidAsked where
  p_ : GPlan
  s_ : GState
  deriving DecidableEq
def Qj (w : World) (cs : List Value) (x : GValidAsked) : Prop:=∃ v0 v1 v2 v3 v4 v5 v6 v7 v8 v9 v10,cs=[.int .i64 x.p_.Id,.bool x.p_.Mobile,v0,v1,v2,.int .i64 x.p_.Events,v3,.int .i64 x.s_.Id,.int .i64 x.s_.Frame,.int .i64 x.s_.Epoch,v4,v5,v6,v7,v8,v9,v10] ∧ SlR w 2 (Zi Zw) v0 x.p_.Pages ∧ SlR w 3 (Zi Zs) v1 x.p_.Procs ∧ SlR w 4 (Zi Zp) v2 x.p_.Ports ∧ SlR w 1 (Zi eI) v3 x.p_.Sems ∧ SlR w 21 (Zi Xf) v4 x.s_.Procs ∧ SlR w 1 (Zi eI) v5 x.s_.Ready ∧ SlR w 2 (Zi Jq) v6 x.s_.Timers ∧ SlR w 1 (Zi eF) v7 x.s_.Up ∧ SlR w 1 (Zi eI) v8 x.s_.Sems ∧ SlR w 2 Qe v9 x.s_.Ports ∧ SlR w 66 (Zi Jr) v10 x.s_.Pages
theorem Qj.mono : Zmg Qj:=by
  intro w w' cs x e h
  obtain⟨v0,v1,v2,v3,v4,v5,v6,v7,v8,v9,v10,rfl,h0,h1,h2,h3,h4,h5,h6,h7,h8,h9,h10⟩:=h
  exact⟨v0,v1,v2,v3,v4,v5,v6,v7,v8,v9,v10,rfl,h0.agr (Zi.mono _) e,h1.agr (Zi.mono _) e,h2.agr (Zi.mono _) e,h3.agr (Zi.mono _) e,h4.agr (Zi.mono _) e,h5.agr (Zi.mono _) e,h6.agr (Zi.mono _) e,h7.agr (Zi.mono _) e,h8.agr (Zi.mono _) e,h9.agr Qe.mono e,h10.agr (Zi.mono _) e⟩
noncomputable def Jv (a0 : GValidAsked) (a1 : GProc → Option Bool) : Nat → Option (Nat ⊕ (Unit ⊕ Bool)):=fun aA=>(bif decide (aA < a0.s_.Procs.length) then (a0.s_.Procs[aA]?).bind fun aB=>(a1 aB).bind fun aC=>(bif (!aC) then some (.inr (.inr false)) else some (.inl (aA + 1))) else some (.inr (.inl ())))
noncomputable def Xd (a0 : GValidAsked) (a1 : GProc → Option Bool) : Option Bool:=(Gk (Jv a0 a1) 0).bind (fun q=>match q with | .inl _=>some true | .inr p=>some p)
noncomputable def Uw (a0 : GProc) : Option Bool:=(rdV a0.Regs 0).bind fun aA=>(bif decide (aA=0) then (Je a0.State 0 3).bind fun aB=>(bif aB then (Je a0.Prio 0 255).bind fun aC=>(bif aC then (Je a0.Wait 0 4).bind fun aD=>some aD else some false) else some false) else some false)
noncomputable def Yw (a0 : GProc) : Option Bool:=some ((!decide (a0.Wait=0)) == decide (a0.State=2))
noncomputable def Jf (a0 : Int) (a1 : Int) : Option Bool:=some (decide (0 ≤ a0) && decide (a0 < a1))
noncomputable def Ya (a0 : GValidAsked) (a1 : GProc) : Option Bool:=(bif decide (a1.Wait=2) then (Jf a1.Obj a0.p_.Events).bind fun aA=>some aA else (bif decide (a1.Wait=3) then (Jf a1.Obj ((a0.p_.Sems.length : Nat) : Int)).bind fun aB=>some aB else (bif decide (a1.Wait=4) then (Jf a1.Obj ((a0.p_.Ports.length : Nat) : Int)).bind fun aC=>(bif aC then (rdI a0.p_.Ports a1.Obj).bind fun aD=>(bif decide (aD.Kind=3) then some true else (rdI a0.p_.Ports a1.Obj).bind fun aE=>some (decide (aE.Kind=4))) else some false) else some (decide (a1.Obj=0)))))
noncomputable def Vv (aB : List Int) (aC : Nat) (aD : Int) : Bool → Option ((List Int × Nat) ⊕ ((List Int) ⊕ Bool)):=fun aA=>(bif aA then some (.inr (.inr false)) else some (.inl ((Zjr aB aD),aC + 1)))
noncomputable def Vw (aB : Nat) : Bool → Option (Nat ⊕ (Unit ⊕ Bool)):=fun aA=>(bif aA then some (.inr (.inr false)) else some (.inl (aB + 1)))
noncomputable def Jk (a0 : GValidAsked) (aC : List Int) : Nat → Option (Nat ⊕ (Unit ⊕ Bool)):=fun aA=>(bif decide (aA < a0.s_.Procs.length) then (a0.s_.Procs[aA]?).bind fun aB=>(((bif decide (aB.State=1) then some (!(decide (((aA : Nat) : Int) ∈ aC))) else some false)) : Option Bool).bind (fun p=>(Vw aA) p) else some (.inr (.inl ())))
noncomputable def Jl (a0 : GValidAsked) : (List Int × Nat) → Option ((List Int × Nat) ⊕ ((List Int) ⊕ Bool)):=fun (aB,aC)=>(bif decide (aC < a0.s_.Ready.length) then (a0.s_.Ready[aC]?).bind fun aA=>(((Jf aA ((a0.s_.Procs.length : Nat) : Int)).bind fun aD=>(bif (!aD) then some true else (bif decide (aA ∈ aB) then some true else (rdI a0.s_.Procs aA).bind fun aE=>some (!decide (aE.State=1))))) : Option Bool).bind (fun p=>(Vv aB aC aA) p) else some (.inr (.inl aB)))
noncomputable def Wo (a0 : GValidAsked) : Option Bool:=(Gk (Jl a0) (([] : List Int),0)).bind (fun q=>match q with | .inl aA=>(Gk (Jk a0 aA) 0).bind (fun q=>match q with | .inl _=>some true | .inr p=>some p) | .inr p=>some p)
noncomputable def Wu (a0 : GValidAsked) (aD : List Int) (aE : Nat) (aA : GTimer) : Bool → Option ((List Int) ⊕ Bool):=fun aC=>(bif aC then some (.inr false) else (bif decide (0 < aE) then (rdI a0.s_.Timers (IntKind.i64.wrap (((aE : Nat) : Int) - 1))).bind fun aB=>(bif (decide (aA.Due < aB.Due) || (decide (aB.Due=aA.Due) && decide (aA.Proc ≤ aB.Proc))) then some (.inr false) else some (.inl (Zjr aD aA.Proc))) else some (.inl (Zjr aD aA.Proc))))
noncomputable def Wv (aB : Nat) : (List Int) → Option ((List Int × Nat) ⊕ (Unit ⊕ Bool)):=fun aA=>some (.inl (aA,aB + 1))
noncomputable def Jw (a0 : GValidAsked) : (List Int × Nat) → Option ((List Int × Nat) ⊕ (Unit ⊕ Bool)):=fun (aE,aB)=>(bif decide (aB < a0.s_.Timers.length) then (((a0.s_.Timers[aB]?).bind fun aA=>(((Jf aA.Proc ((a0.s_.Procs.length : Nat) : Int)).bind fun aC=>(bif (!aC) then some true else (bif decide (aA.Proc ∈ aE) then some true else (Je aA.Due 0 1010000).bind fun aD=>some (!aD)))) : Option Bool).bind (fun p=>(Wu a0 aE aB aA) p)) : Option ((List Int) ⊕ Bool)).bind (fun q=>match q with | .inl p=>(Wv aB) p | .inr p=>some (.inr (.inr p))) else some (.inr (.inl ())))
noncomputable def Ud (a0 : GValidAsked) : Option Bool:=(Gk (Jw a0) (([] : List Int),0)).bind (fun q=>match q with | .inl _=>some true | .inr p=>some p)
noncomputable def Vx (aB : List Int) (aC : Nat) (aD : GTimer) : Bool → Option ((List Int × Nat) ⊕ ((List Int) ⊕ Bool)):=fun aA=>(bif aA then some (.inr (.inr false)) else some (.inl ((Zjr aB aD.Proc),aC + 1)))
noncomputable def Vy (aB : Nat) : Bool → Option (Nat ⊕ (Unit ⊕ Bool)):=fun aA=>(bif aA then some (.inr (.inr false)) else some (.inl (aB + 1)))
noncomputable def Jm (a0 : GValidAsked) (aC : List Int) : Nat → Option (Nat ⊕ (Unit ⊕ Bool)):=fun aA=>(bif decide (aA < a0.s_.Procs.length) then (a0.s_.Procs[aA]?).bind fun aB=>(((bif decide (aB.Wait=1) then some (!(decide (((aA : Nat) : Int) ∈ aC))) else some false)) : Option Bool).bind (fun p=>(Vy aA) p) else some (.inr (.inl ())))
noncomputable def Jn (a0 : GValidAsked) : (List Int × Nat) → Option ((List Int × Nat) ⊕ ((List Int) ⊕ Bool)):=fun (aC,aA)=>(bif decide (aA < a0.s_.Timers.length) then (a0.s_.Timers[aA]?).bind fun aB=>(((Jf aB.Proc ((a0.s_.Procs.length : Nat) : Int)).bind fun aD=>(bif aD then (rdI a0.s_.Procs aB.Proc).bind fun aE=>some (!decide (aE.State=2)) else some false)) : Option Bool).bind (fun p=>(Vx aC aA aB) p) else some (.inr (.inl aC)))
noncomputable def Wp (a0 : GValidAsked) : Option Bool:=(Gk (Jn a0) (([] : List Int),0)).bind (fun q=>match q with | .inl aA=>(Gk (Jm a0 aA) 0).bind (fun q=>match q with | .inl _=>some true | .inr p=>some p) | .inr p=>some p)
noncomputable def Xx (a0 : List Int) (a1 : Int → Option Bool) : Nat → Option (Nat ⊕ (Unit ⊕ Int)):=fun aA=>(bif decide (aA < a0.length) then (a0[aA]?).bind fun aB=>(a1 aB).bind fun aC=>(bif aC then some (.inr (.inr ((aA : Nat) : Int))) else some (.inl (aA + 1))) else some (.inr (.inl ())))
noncomputable def Ww (a0 : List Int) (a1 : Int → Option Bool) : Option Int:=(Gk (Xx a0 a1) 0).bind (fun q=>match q with | .inl _=>some (-1) | .inr p=>some p)
noncomputable def Ka (a0 : List Int) (a1 : Int → Option Bool) : Option Bool:=(Ww a0 a1).bind fun aA=>some (decide (0 ≤ aA))
noncomputable def Yx (a0 : Int) : Option Bool:=(Je a0 0 255).bind fun aA=>some (!aA)
noncomputable def Jx (a0 : GValidAsked) (a1 : GPortPlan → GPort → Option Bool) : Int → Option (Int ⊕ (Unit ⊕ Bool)):=fun aA=>(bif decide (aA < (if ((a0.s_.Ports.length : Nat) : Int) < ((a0.p_.Ports.length : Nat) : Int) then ((a0.s_.Ports.length : Nat) : Int) else ((a0.p_.Ports.length : Nat) : Int))) then (rdI a0.p_.Ports aA).bind fun aB=>(rdI a0.s_.Ports aA).bind fun aC=>(a1 aB aC).bind fun aD=>(bif (!aD) then some (.inr (.inr false)) else some (.inl (IntKind.i64.wrap (aA + 1)))) else some (.inr (.inl ())))
noncomputable def Kf (a0 : GValidAsked) (a1 : GPortPlan → GPort → Option Bool) : Option Bool:=(Gk (Jx a0 a1) 0).bind (fun q=>match q with | .inl _=>some true | .inr p=>some p)
noncomputable def Xe (a0 : List ByteArray) (a1 : ByteArray → Option Bool) : Nat → Option (Nat ⊕ (Unit ⊕ Int)):=fun aA=>(bif decide (aA < a0.length) then (a0[aA]?).bind fun aB=>(a1 aB).bind fun aC=>(bif aC then some (.inr (.inr ((aA : Nat) : Int))) else some (.inl (aA + 1))) else some (.inr (.inl ())))
noncomputable def Ys (a0 : List ByteArray) (a1 : ByteArray → Option Bool) : Option Int:=(Gk (Xe a0 a1) 0).bind (fun q=>match q with | .inl _=>some (-1) | .inr p=>some p)
noncomputable def Ja (a0 : List ByteArray) (a1 : ByteArray → Option Bool) : Option Bool:=(Ys a0 a1).bind fun aA=>some (decide (0 ≤ aA))
noncomputable def Kv (a0 : ByteArray) (a1 : GPortPlan) : Option Bool:=some (decide (a1.Size < ((a0.size : Nat) : Int)))
noncomputable def Kj (a0 : GPortPlan) (a1 : GPort) : Option Bool:=(bif decide (((a1.Msgs.length : Nat) : Int) ≤ a0.Depth) then (Ja a1.Msgs (fun x0=>Kv x0 a0)).bind fun aA=>some (!aA) else some false)
noncomputable def Kk (a0 : GPortPlan) (a1 : GPort) : Option Bool:=(Je a1.Age 0 255).bind fun aA=>(bif aA then (bif decide (a1.Age=0) then some true else (bif decide (a0.Kind=1) then some (decide (0 < a1.Msgs.length)) else some false)) else some false)
noncomputable def Jo (a0 : GValidAsked) : Int → Option (Int ⊕ (Unit ⊕ Bool)):=fun aA=>(bif decide (aA < (if ((a0.s_.Pages.length : Nat) : Int) < ((a0.p_.Pages.length : Nat) : Int) then ((a0.s_.Pages.length : Nat) : Int) else ((a0.p_.Pages.length : Nat) : Int))) then (rdI a0.p_.Pages aA).bind fun aB=>(rdI a0.s_.Pages aA).bind fun aC=>(bif (!decide (aB.Rights=aC.Rights)) then some (.inr (.inr false)) else some (.inl (IntKind.i64.wrap (aA + 1)))) else some (.inr (.inl ())))
noncomputable def Vp (a0 : GValidAsked) : Option Bool:=(Gk (Jo a0) 0).bind (fun q=>match q with | .inl _=>some true | .inr p=>some p)
noncomputable def Kl (a0 : GProc) (a1 : GState) (a2 : GPlan) : Option Bool:=(bif (!decide (a0.Wait=2)) then some true else (Jf a0.Obj (if a2.Events < ((a1.Up.length : Nat) : Int) then a2.Events else ((a1.Up.length : Nat) : Int))).bind fun aA=>(bif (!aA) then some true else (rdI a1.Up a0.Obj).bind fun aB=>some (!aB)))
noncomputable def Km (a0 : GProc) (a1 : GState) (a2 : GPlan) : Option Bool:=(bif (!decide (a0.Wait=3)) then some true else (Jf a0.Obj (if ((a2.Sems.length : Nat) : Int) < ((a1.Sems.length : Nat) : Int) then ((a2.Sems.length : Nat) : Int) else ((a1.Sems.length : Nat) : Int))).bind fun aA=>(bif (!aA) then some true else (rdI a1.Sems a0.Obj).bind fun aB=>some (decide (aB=0))))
noncomputable def Vz : (GPortPlan × List ByteArray × Int) → Option Bool:=fun (aA,aB,aC)=>(bif decide (aA.Kind=3) then some (decide (aB.length=0)) else (bif decide (aA.Kind=4) then some (decide (((aB.length : Nat) : Int)=aA.Depth)) else some true))
noncomputable def Wa (a0 : GValidAsked) (a1 : GProc) : Bool → Option Bool:=fun aC=>(bif aC then some true else (((rdI a0.p_.Ports a1.Obj).bind fun aB=>(rdI a0.s_.Ports a1.Obj).bind fun aA=>some (aB,aA.Msgs,aA.Age)) : Option (GPortPlan × List ByteArray × Int)).bind (fun p=>Vz p))
noncomputable def Yb (a0 : GValidAsked) (a1 : GProc) : Option Bool:=(((bif (!decide (a1.Wait=4)) then some true else (Jf a1.Obj (if ((a0.s_.Ports.length : Nat) : Int) < ((a0.p_.Ports.length : Nat) : Int) then ((a0.s_.Ports.length : Nat) : Int) else ((a0.p_.Ports.length : Nat) : Int))).bind fun aA=>some (!aA))) : Option Bool).bind (fun p=>(Wa a0 a1) p)
noncomputable def Za8 (a0 : GPortPlan) : Option Bool:=some (decide (a0.Kind=2) || decide (a0.Kind=4))
noncomputable def Kn (a0 : GPortPlan) (a1 : GPort) : Option Bool:=(Za8 a0).bind fun aA=>(bif (!aA) then some true else some (decide (a1.Msgs.length=0)))
noncomputable def Wx (a0 : GValidAsked) : Unit → Option (Vector Bool 17):=fun _=>(Je a0.s_.Frame 0 2147483647).bind fun aA=>((bif aA then (Je a0.s_.Epoch 0 2147483647).bind fun aB=>some aB else some false : Option Bool).bind fun aC=>((bif decide (a0.s_.Procs.length=a0.p_.Procs.length) then some (decide (a0.s_.Ports.length=a0.p_.Ports.length)) else some false : Option Bool).bind fun aD=>((bif aD then some (decide (a0.s_.Pages.length=a0.p_.Pages.length)) else some false : Option Bool).bind fun aE=>((bif aE then some (decide (((a0.s_.Up.length : Nat) : Int)=a0.p_.Events)) else some false : Option Bool).bind fun aF=>((bif aF then some (decide (a0.s_.Sems.length=a0.p_.Sems.length)) else some false : Option Bool).bind fun aG=>(Xd a0 (fun x0=>Uw x0)).bind fun aH=>(Xd a0 (fun x0=>Yw x0)).bind fun aI=>(Xd a0 (fun x0=>Ya a0 x0)).bind fun aJ=>(Wo a0).bind fun aK=>(Ud a0).bind fun aL=>(Wp a0).bind fun aM=>(Ka a0.s_.Sems (fun x0=>Yx x0)).bind fun aN=>(Kf a0 (fun x0 x1=>Kj x0 x1)).bind fun aO=>(Kf a0 (fun x0 x1=>Kk x0 x1)).bind fun aP=>(Vp a0).bind fun aQ=>(Xd a0 (fun x0=>Kl x0 a0.s_ a0.p_)).bind fun aR=>(Xd a0 (fun x0=>Km x0 a0.s_ a0.p_)).bind fun aS=>(Xd a0 (fun x0=>Yb a0 x0)).bind fun aT=>(Kf a0 (fun x0 x1=>Kn x0 x1)).bind fun aU=>some (#v[decide (a0.s_.Id=a0.p_.Id),aC,aG,aH,aI,aJ,aK,aL,aM,(!aN),aO,aP,aQ,aR,aS,aT,aU]))))))
noncomputable def Wq (a0 : GValidAsked) : Option (Vector Bool 17):=((some ()) : Option Unit).bind (fun p=>(Wx a0) p)
noncomputable def Hr (aB : Nat) : (List Int) → Option ((List Int × Nat) ⊕ (List Int)):=fun aA=>some (.inl (aA,aB + 1))
noncomputable def Yp (aD : Vector Bool 17) : (List Int × Nat) → Option ((List Int × Nat) ⊕ (List Int)):=fun (aB,aA)=>(bif decide (aA < 17) then (((rdV aD ((aA : Nat) : Int)).bind fun aC=>(bif (!aC) then chk ((aB.length + [((aA + 1 : Nat) : Int)].length) * 8 ≤ 140737488355328) (some (aB ++ [((aA + 1 : Nat) : Int)])) else some aB)) : Option (List Int)).bind (fun p=>(Hr aA) p) else some (.inr aB))
noncomputable def Wf (a0 : GPlan) (a1 : GState) : Option (List Int):=(Uc a0).bind fun aA=>(bif (!decide (aA=.nil)) then some [0] else (Wq (⟨a0,a1⟩ : GValidAsked)).bind fun aB=>(Gk (Yp aB) (([] : List Int),0)).bind (fun aC=>some aC))
noncomputable def Wj (a0 : List Int) (a1 : List Int) : Nat → Option (Nat ⊕ (Unit ⊕ Bool)):=fun aA=>(bif decide (aA < a0.length) then (a0[aA]?).bind fun aB=>(a1[aA]?).bind fun aC=>(bif (!decide (aB=aC)) then some (.inr (.inr false)) else some (.inl (aA + 1))) else some (.inr (.inl ())))
noncomputable def Gu (a0 : List Int) (a1 : List Int) : Option Bool:=(bif (!decide (a0.length=a1.length)) then some false else (Gk (Wj a0 a1) 0).bind (fun q=>match q with | .inl _=>some true | .inr p=>some p))
noncomputable def Xy (a0 : GPlan) : Option GPlan:=chk ((([] : List GPagePlan).length + a0.Pages.length) * 24 ≤ 140737488355328) (chk ((([] : List GProcPlan).length + a0.Procs.length) * 24 ≤ 140737488355328) (chk ((([] : List GPortPlan).length + a0.Ports.length) * 32 ≤ 140737488355328) (chk ((([] : List Int).length + a0.Sems.length) * 8 ≤ 140737488355328) (some (⟨a0.Id,a0.Mobile,(([] : List GPagePlan) ++ a0.Pages),(([] : List GProcPlan) ++ a0.Procs),(([] : List GPortPlan) ++ a0.Ports),a0.Events,(([] : List Int) ++ a0.Sems)⟩ : GPlan)))))
noncomputable def Wr (a0 : List UInt8) : Option Bool:=chk ((([] : List UInt8).length + a0.length) * 1 ≤ 140737488355328) ((Ku (([] : List UInt8) ++ a0)).bind fun aA=>(bif (!decide (aA.2=.nil)) then some true else (Yv aA.1).bind fun aB=>(bif decide (aB.2=.nil) then some (decide ((Zge aB.1)=(Zge a0))) else some false)))
noncomputable def Ve (a0 : GState) : (List GPort × Nat) → Option ((List GPort × Nat) ⊕ (List GPort)):=fun (aA,aB)=>(bif decide (aB < a0.Ports.length) then (a0.Ports[aB]?).bind fun aC=>chk ((([] : List ByteArray).length + aC.Msgs.length) * 16 ≤ 140737488355328) (chk ((aA.length + 1) * 32 ≤ 140737488355328) (some (.inl ((aA ++ [(⟨(([] : List ByteArray) ++ aC.Msgs),aC.Age⟩ : GPort)]),aB + 1)))) else some (.inr aA))
noncomputable def Ux (a0 : GState) : Option GState:=chk ((([] : List GProc).length + a0.Procs.length) * 104 ≤ 140737488355328) (chk ((([] : List Int).length + a0.Ready.length) * 8 ≤ 140737488355328) (chk ((([] : List GTimer).length + a0.Timers.length) * 16 ≤ 140737488355328) (chk ((([] : List Bool).length + a0.Up.length) * 1 ≤ 140737488355328) (chk ((([] : List Int).length + a0.Sems.length) * 8 ≤ 140737488355328) (chk ((([] : List GPage).length + a0.Pages.length) * 80 ≤ 140737488355328) ((Gk (Ve a0) (([] : List GPort),0)).bind (fun aA=>some (⟨a0.Id,a0.Frame,a0.Epoch,(([] : List GProc) ++ a0.Procs),(([] : List Int) ++ a0.Ready),(([] : List GTimer) ++ a0.Timers),(([] : List Bool) ++ a0.Up),(([] : List Int) ++ a0.Sems),aA,(([] : List GPage) ++ a0.Pages)⟩ : GState))))))))
noncomputable def Ts (aA : List Int) : Bool → Option ErrM:=fun aB=>(bif aB then some .nil else (aA[0]?).bind fun aC=>(bif decide (aC=0) then some (.v Hp) else (aA[0]?).bind fun aD=>some (.pl aD Zhn)))
noncomputable def Zan (a0 : GPlan) (a1 : GState) (a2 : Int) : Option ErrM:=(Wf a0 a1).bind fun aA=>(((bif decide (aA.length=0) then some true else (aA[0]?).bind fun aB=>some (decide (a2 < aB)))) : Option Bool).bind (fun p=>(Ts aA) p)
noncomputable def Zao (a0 : GPlan) (a1 : GState) : Option ErrM:=(Zan a0 a1 17).bind fun aA=>some aA
noncomputable def Wb : Bool → Option Bool:=fun aA=>some aA
noncomputable def Wc (aA : Nat) : Bool → Option (Nat ⊕ (Unit ⊕ Bool)):=fun aB=>(bif aB then some (.inr (.inr false)) else some (.inl (aA + 1)))
noncomputable def Xm (a0 : GPlan) (aB : GState × ErrM) : Nat → Option (Nat ⊕ (Unit ⊕ Bool)):=fun aA=>(bif decide (aA < a0.Procs.length) then (a0.Procs[aA]?).bind fun aC=>(((aB.1.Procs[aA]?).bind fun aD=>(bif (!(decide (aD.State=1) == aC.Auto)) then some true else (aB.1.Procs[aA]?).bind fun aE=>(bif (!decide ((IntKind.i64.wrap aE.Pc)=aC.Entry)) then some true else (aB.1.Procs[aA]?).bind fun aF=>some (!decide (aF.Prio=aC.Prio))))) : Option Bool).bind (fun p=>(Wc aA) p) else some (.inr (.inl ())))
noncomputable def Vf (a0 : GPlan) (a1 : List UInt8) (aD : GState × ErrM) : Bool → Option Bool:=fun aE=>(bif aE then some false else (Gk (Xm a0 aD) 0).bind (fun q=>match q with | .inl _=>(Xy a0).bind fun aF=>(Yv aF).bind fun aA=>chk ((([] : List UInt8).length + aA.1.length) * 1 ≤ 140737488355328) ((Ku (([] : List UInt8) ++ aA.1)).bind fun aC=>(Xy a0).bind fun aG=>(Tk aG).bind fun aB=>(bif decide (aA.2=.nil) then (bif decide (aC.2=.nil) then (bif decide (aB.2=.nil) then (Zbm aC.1 a0).bind fun aH=>(bif aH then (bif decide (aB.1 ≤ 4096) then (bif decide (0 < aB.1) then (Wr a1).bind fun aI=>some aI else some false) else some false) else some false) else some false) else some false) else some false)) | .inr p=>some p))
noncomputable def Jc (a0 : GPlan) (a1 : List UInt8) : Bool → Option Bool:=fun aO=>(bif aO then some false else (Xy a0).bind fun aP=>(Uc aP).bind fun aQ=>(bif (!decide (aQ=.nil)) then (Xy a0).bind fun aR=>(Gf aR).bind fun aS=>(Xy a0).bind fun aT=>(Yv aT).bind fun aU=>(Xy a0).bind fun aV=>(Tk aV).bind fun aW=>(((bif decide ((ErrM.code aS.2)=8) then (bif decide ((ErrM.code aU.2)=8) then (bif decide ((ErrM.code aW.2)=8) then (Wr a1).bind fun aB=>some aB else some false) else some false) else some false)) : Option Bool).bind (fun p=>Wb p) else (Xy a0).bind fun aC=>(Gf aC).bind fun aA=>(((bif (!decide (aA.2=.nil)) then some true else (Xy a0).bind fun aD=>(Ux aA.1).bind fun aE=>(Wf aD aE).bind fun aF=>(bif (!decide (aF.length=0)) then some true else (Xy a0).bind fun aG=>(Ux aA.1).bind fun aH=>(Zao aG aH).bind fun aI=>((bif (!decide (aI=.nil)) then some true else some (!decide (aA.1.Id=a0.Id)) : Option Bool).bind fun aJ=>((bif aJ then some true else some (!decide (aA.1.Frame=0)) : Option Bool).bind fun aK=>((bif aK then some true else some (!decide (aA.1.Epoch=0)) : Option Bool).bind fun aL=>((bif aL then some true else some (!decide (aA.1.Procs.length=a0.Procs.length)) : Option Bool).bind fun aM=>((bif aM then some true else some (!decide (aA.1.Pages.length=a0.Pages.length)) : Option Bool).bind fun aN=>some aN)))))))) : Option Bool).bind (fun p=>(Vf a0 a1 aA) p)))
noncomputable def Un (a0 : GPlan) (a1 : List UInt8) : Option Bool:=(Zac).bind fun aE=>(Gf aE).bind fun aA=>(((bif (!decide (aA.2=.nil)) then some true else (Zac).bind fun aB=>(Wf aB aA.1).bind fun aC=>(bif (!decide (aC.length=0)) then some true else (Gu aA.1.Ready [0]).bind fun aD=>some (!aD)))) : Option Bool).bind (fun p=>(Jc a0 a1) p)
end Go.Proofs.YtfemfiiagjnhdaaGreatDoor
