/- Errors: a package's variable, or one with a place round it; calls of functions that the model itself answers; methods called through interfaces. No program is named here. -/
import Derived.Test.YtnhjohcgnmogaaaDoorGlob
import Derived.Test.YtnhjohcgnmogaaaDoorSep
import Derived.LaidEql
import Derived.Stop.Asserts
import Derived.Laws.Externs
set_option linter.unusedVariables false
set_option linter.unusedSimpArgs false
set_option linter.unusedSectionVars false
namespace Go.Proofs.YtnhjohcgnmogaaaDoor
open Go Go.RowKit Go.Extern

section
variable {P : Program} {L : Operand → Option Value} {C : World → Prop}
theorem q_tassert {x : Operand} {v u : Value} {T I : TypeId} {b : Bool} (e : L x = some v) (hr : ∀ w, (Instr.typeAssert v T I b).run P w = .ok u w) : Q1 P L (.typeAssert x T I b) C u :=
  fun ρ h w' _ dst ty pos af g => by simp [execOp, h x v e, hr]
/-- A call of a function that the model answers. -/
theorem q_ext1 {f : FuncId} {x : Operand} {v u : Value} {tys : Array TypeId} (ef : L (.func f) = some (.func (.func f) #[] #[])) (e : L x = some v) (hr : ∀ w, C w → (callFunc f #[v]).run P w = .ok (.value u) w) :
    Q1 P L (.call { callee := .value (.func f), args := #[x], argTypes := tys }) C u :=
  fun ρ h w' hw dst ty pos af g => by simp [execOp, resolve, h _ _ ef, h x v e, Deferred.ofValue, invoke, hr w' hw]
theorem q_inv0 {x : Operand} {t : TypeId} {v r u : Value} {name : String} {f : FuncId} {tys : Array TypeId} (e : L x = some (.iface t v)) (hm : ∀ w, (method (P.types.size + Made.depth) t v name).run P w = .ok (f, r) w) (hr : ∀ w, C w → (callFunc f #[r]).run P w = .ok (.value u) w) :
    Q1 P L (.call { callee := .invoke x name, args := #[], argTypes := tys }) C u :=
  fun ρ h w' hw dst ty pos af g => by simp [execOp, resolve, h x _ e, invoke, callMethod, hm, hr w' hw]
theorem q_inv1 {x y : Operand} {t : TypeId} {v z r u : Value} {name : String} {f : FuncId} {tys : Array TypeId} (e : L x = some (.iface t v)) (ey : L y = some z) (hm : ∀ w, (method (P.types.size + Made.depth) t v name).run P w = .ok (f, r) w) (hr : ∀ w, C w → (callFunc f #[r, z]).run P w = .ok (.value u) w) :
    Q1 P L (.call { callee := .invoke x name, args := #[y], argTypes := tys }) C u :=
  fun ρ h w' hw dst ty pos af g => by simp [execOp, resolve, h x _ e, h y _ ey, invoke, callMethod, hm, hr w' hw]
end

section
variable {P : Program} {ops : Array Oper} {Q : Exit → Act → World → Prop} {rest : List Oper} {a : Act} {n : Nat} {l : List (Nat × Option Value)} {w : World}
  {ty : TypeId} {pos : String} {af : Array Edge} {d : Nat}
/-- .. that lays new memory, or writes. -/
theorem n_ext1 {f : FuncId} {x : Operand} {v u : Value} {w' : World} {tys : Array TypeId} (H : Has a n l) (e : lo l x = some v) (hr : (callFunc f #[v]).run P w = .ok (.value u) w') (hd : Nat.blt d n = true) (h : ∀ a', Has a' n ((d, some u) :: l) → wpList P ops Q rest a' w') :
    wpList P ops Q (⟨some d, .call { callee := .value (.func f), args := #[x], argTypes := tys }, ty, pos, af, none⟩ :: rest) a w :=
  n_run (w' := w') H (fun ρ hρ => by simp [execOp, resolve, hρ (.func f) _ rfl, hρ x _ e, Deferred.ofValue, invoke, hr]) hd h
theorem n_ext2 {f : FuncId} {x y : Operand} {v z u : Value} {w' : World} {tys : Array TypeId} (H : Has a n l) (e : lo l x = some v) (ey : lo l y = some z) (hr : (callFunc f #[v, z]).run P w = .ok (.value u) w') (hd : Nat.blt d n = true) (h : ∀ a', Has a' n ((d, some u) :: l) → wpList P ops Q rest a' w') :
    wpList P ops Q (⟨some d, .call { callee := .value (.func f), args := #[x, y], argTypes := tys }, ty, pos, af, none⟩ :: rest) a w :=
  n_run (w' := w') H (fun ρ hρ => by simp [execOp, resolve, hρ (.func f) _ rfl, hρ x _ e, hρ y _ ey, Deferred.ofValue, invoke, hr]) hd h
/-- A guarded operation whose guard says no. -/
theorem nc_no {lc : List (Nat × (Nat × Bool) × Value)} {op : Op} {j t : Nat} {want b : Bool} (H : HasC ops a n l lc) (hj : (ops[j]?).bind (·.dst) = some t) (ht : lk l t = some (.bool b)) (hb : b ≠ want) (hd : Nat.blt d n = true) (hk : okc ops d lc = true)
    (hg : (match (ops[j]?).bind (·.dst) with | some t => !(Nat.beq t d) | none => true) = true)
    (h : ∀ a', HasC ops a' n ((d, none) :: l) ((d, (j, want), undef) :: lc) → wpList P ops Q rest a' w) :
    wpList P ops Q (⟨some d, op, ty, pos, af, some (j, want)⟩ :: rest) a w := by
  have hy : yielded ops a.tmps j = some b := yielded_of H.has hj ht
  refine wpList_step fun K hK => ?_
  rw [if_neg (fun hw => by
    have := (wanted_iff (o := ⟨some d, op, ty, pos, af, some (j, want)⟩) rfl).1 hw
    simp only at this
    rw [hy] at this
    exact hb (Option.some.inj this))]
  exact hK _ _ (h _ (H.putg (j, want) d undef undef hd hk hg fun _ => rfl))
theorem execOp_guard (ρ : Operand → Value) (dst : Option Nat) (op : Op) (ty : TypeId) (pos : String) (af : Array Edge) (g : Option (Nat × Bool)) : execOp ρ ⟨dst, op, ty, pos, af, g⟩ = execOp ρ ⟨dst, op, ty, pos, af, none⟩ := by
  cases op <;> rfl
/-- A guarded operation whose guard says yes. -/
theorem nc_yes {lc : List (Nat × (Nat × Bool) × Value)} {op : Op} {dst : Option Nat} {j t : Nat} {want : Bool} (H : HasC ops a n l lc) (hj : (ops[j]?).bind (·.dst) = some t) (ht : lk l t = some (.bool want))
    (h : wpList P ops Q (⟨dst, op, ty, pos, af, none⟩ :: rest) a w) : wpList P ops Q (⟨dst, op, ty, pos, af, some (j, want)⟩ :: rest) a w := by
  have hy : yielded ops a.tmps j = some want := yielded_of H.has hj ht
  have hw : Region.wanted ⟨dst, op, ty, pos, af, some (j, want)⟩ (yielded ops a.tmps) = true := (wanted_iff (g := (j, want)) (o := ⟨dst, op, ty, pos, af, some (j, want)⟩) rfl).2 hy
  have hw2 : Region.wanted ⟨dst, op, ty, pos, af, none⟩ (yielded ops a.tmps) = true := by simp [Region.wanted]
  unfold wpList at h ⊢
  rw [if_pos hw]
  rw [if_pos hw2] at h
  have e1 : ∀ next, Oper.wp P ⟨dst, op, ty, pos, af, some (j, want)⟩ a w next Q ↔ Oper.wp P ⟨dst, op, ty, pos, af, none⟩ a w next Q := fun next => by
    unfold Oper.wp
    rw [execOp_guard]
    unfold Oper.upon
    rfl
  rcases h with h | ⟨h, k⟩
  · exact .inl ((e1 _).2 h)
  · refine .inr ⟨?_, k⟩
    unfold Oper.asks at h ⊢
    rw [execOp_guard]
    exact h
theorem q_pickF {L : Operand → Option Value} {C : World → Prop} {c x y : Operand} {v : Value} (ec : L c = some (.bool false)) (ey : L y = some v) : Q1 P L (.pick c x y) C v :=
  fun ρ h w' _ dst ty pos af g => by simp [execOp, h c _ ec, h y _ ey, asBool]
theorem q_pickT {L : Operand → Option Value} {C : World → Prop} {c x y : Operand} {v : Value} (ec : L c = some (.bool true)) (ex : L x = some v) : Q1 P L (.pick c x y) C v :=
  fun ρ h w' _ dst ty pos af g => by simp [execOp, h c _ ec, h x _ ex, asBool]
/-- A method of the program's own, called through an interface. -/
theorem n_inv {x : Operand} {t : TypeId} {v r : Value} {name : String} {f : FuncId} {tys : Array TypeId} {Φ : Value → World → Prop} (H : Has a n l) (e : lo l x = some (.iface t v)) (hm : ∀ w, (method (P.types.size + Made.depth) t v name).run P w = .ok (f, r) w) (hf : entersB P f = true)
    (hc : Calls P f #[r] w (Ret Φ)) (hd : Nat.blt d n = true) (h : ∀ u w', Φ u w' → ∀ a', Has a' n ((d, some u) :: l) → wpList P ops Q rest a' w') :
    wpList P ops Q (⟨some d, .call { callee := .invoke x name, args := #[], argTypes := tys }, ty, pos, af, none⟩ :: rest) a w :=
  wpList_plain rfl fun K hK => by
    refine wp_call (f := f) (args := #[r]) (by
      simp [execOp, resolve, H.eval x _ e, invoke, callMethod, hm, run_callFunc_enters hf]) hc fun u w' hv => hK _ _ (h u w' hv _ (H.put d u hd))
end

/-- An error: none, a variable's value (by the variable's number), or one with a place round such a value. -/
inductive ErrM where
  | nil
  | v (g : Nat)
  | pl (p : Int) (g : Nat)
  deriving DecidableEq
def ErrM.isAt : ErrM → Bool
  | .pl _ _ => true
  | _ => false
def ErrM.g? : ErrM → Option Nat
  | .nil => none
  | .v g => some g
  | .pl _ g => some g
def ErrM.depth : ErrM → Nat
  | .pl _ _ => 1
  | _ => 0
/-- api.Place. -/
def ErrM.place : ErrM → Int
  | .pl p _ => p
  | _ => -1
/-- TE, TA: the types of the variables' values and of pointers to places. -/
def IsErr (TE TA : TypeId) (gs : List Nat) (A : Nat → Addr) (w : World) (u : Value) : ErrM → Prop
  | .nil => u = .nilIface
  | .v g => g ∈ gs ∧ u = sv TE A g
  | .pl p g => g ∈ gs ∧ ∃ b, u = .iface TA (.pointer (some ⟨b, 0, none⟩)) ∧ w.cell? ⟨b, 0, none⟩ = some (.int .i64 p) ∧ w.cell? ⟨b, 1, none⟩ = some (sv TE A g)
section
variable {TE TA : TypeId} {gs : List Nat} {A : Nat → Addr} {w w' : World} {u : Value} {e : ErrM}
theorem IsErr.agr (h : IsErr TE TA gs A w u e) (x : Agr w w') : IsErr TE TA gs A w' u e := by
  cases e with
  | nil => exact h
  | v g => exact h
  | pl p g =>
    obtain ⟨h1, b, h2, h3, h4⟩ := h
    exact ⟨h1, b, h2, cell_agr h3 x, cell_agr h4 x⟩
theorem IsErr.ext (h : IsErr TE TA gs A w u e) (x : Ext w w') : IsErr TE TA gs A w' u e := h.agr x.agr
theorem IsErr.mono {gs' : List Nat} (h : IsErr TE TA gs A w u e) (hs : ∀ g ∈ gs, g ∈ gs') : IsErr TE TA gs' A w u e := by
  cases e with
  | nil => exact h
  | v g => exact ⟨hs g h.1, h.2⟩
  | pl p g => exact ⟨hs g h.1, h.2⟩
theorem IsErr.form (h : IsErr TE TA gs A w u e) : u = .nilIface ∨ ∃ t x, u = .iface t x := by
  cases e with
  | nil => exact .inl h
  | v g => exact .inr ⟨_, _, h.2⟩
  | pl p g => obtain ⟨_, b, h, _⟩ := h; exact .inr ⟨_, _, h⟩
theorem IsErr.one (h : IsErr TE TA gs A w u e) : u.oneCell' = true := by
  rcases h.form with rfl | ⟨t, x, rfl⟩ <;> rfl
theorem IsErr.isNil (h : IsErr TE TA gs A w u e) : isNilI u = decide (e = .nil) := by
  cases e with
  | nil => rw [show u = .nilIface from h]; rfl
  | v g => rw [show u = sv TE A g from h.2]; rfl
  | pl p g => obtain ⟨_, b, h, _⟩ := h; rw [h]; rfl
/-- The two types of dynamic values. -/
theorem IsErr.type (h : IsErr TE TA gs A w u e) (hn : e ≠ .nil) : ∃ x, u = .iface (if e.isAt = true then TA else TE) (.pointer (some x)) := by
  cases e with
  | nil => exact absurd rfl hn
  | v g => exact ⟨_, h.2⟩
  | pl p g => obtain ⟨_, b, h, _⟩ := h; exact ⟨_, h⟩
theorem IsErr.var {g : Nat} (hg : g ∈ gs) : IsErr TE TA gs A w (sv TE A g) (.v g) := ⟨hg, rfl⟩
theorem IsErr.var' {g : Nat} (hg : g ∈ gs) : IsErr TE TA gs A w (eV TE A (some g)) (.v g) := ⟨hg, rfl⟩
theorem IsErr.no : IsErr TE TA gs A w .nilIface .nil := rfl
theorem IsErr.mk {b : Nat} {T : TypeId} {p : Int} {g : Nat} (hg : g ∈ gs) (hB : Blk w b [.int .i64 p, sv TE A g] T) : IsErr TE TA gs A w (.iface TA (.pointer (some ⟨b, 0, none⟩))) (.pl p g) :=
  ⟨hg, b, rfl, hB.cell 0, hB.cell 1⟩
/-- As a fact that reads just the block. -/
theorem IsErr.foot (h : IsErr TE TA gs A w u e) : ∃ fp, Foot (fun w' => IsErr TE TA gs A w' u e) fp w ∧ (e.isAt = false → ∀ b, ¬ fp b) := by
  cases e with
  | nil => exact ⟨NB, ⟨fun _ hb => hb.elim, fun w' _ => h⟩, fun _ _ hb => hb⟩
  | v g => exact ⟨NB, ⟨fun _ hb => hb.elim, fun w' _ => h⟩, fun _ _ hb => hb⟩
  | pl p g =>
    obtain ⟨h1, b, h2, h3, h4⟩ := h
    refine ⟨fun c => c = b, ⟨fun c hc => by rw [hc]; exact World.block_lt_of_cell? w _ h3, fun w' hw => ⟨h1, b, h2, ?_, ?_⟩⟩, fun hc => by cases hc⟩
    · unfold World.cell? at h3 ⊢; rw [hw b rfl]; exact h3
    · unfold World.cell? at h4 ⊢; rw [hw b rfl]; exact h4

variable {P : Program}
/-- Is it this variable's value? -/
def ErrM.isV (e : ErrM) (g : Nat) : Bool := match e with
  | .v g' => decide (g' = g)
  | _ => false
theorem run_eqErr {ti te : TypeId} {ms : Array (String × TypeId)} {i j : TypeInfo} (hG : GV TE gs A w) (h : IsErr TE TA gs A w u e) {g : Nat} (hg : g ∈ gs) (hne : TA ≠ TE)
    (hi : P.underlying ti = some (.interface ms)) (hp : P.underlying TE = some (.pointer te)) (hinfo : P.info? TE = some i) (hcomp : i.comparable = true) (hte : P.info? te = some j) (hsz : j.size ≠ 0) :
    (binOp .eql ti u (sv TE A g)).run P w = .ok (.bool (e.isV g)) w := by
  cases e with
  | nil => rw [show u = .nilIface from h]; exact run_eql_iface_nil_left w _ _ hi
  | v g' =>
    rw [show u = sv TE A g' from h.2]
    by_cases hgg : g' = g
    · subst hgg
      have := run_eql_iface_ptr_same (P := P) w (A g') hi hp hinfo hcomp hte
      have e1 : ErrM.isV (.v g') g' = true := by simp [ErrM.isV]
      rw [e1]; exact this
    · obtain ⟨c1, t1, h1⟩ := (hG.cell g' h.1).2
      obtain ⟨c2, t2, h2⟩ := (hG.cell g hg).2
      have := run_eql_iface_ptr_other (P := P) w hi hp hinfo hcomp hte hsz (hG.ne g' h.1 g hg hgg) h1 h2
      have e1 : ErrM.isV (.v g') g = false := by simp [ErrM.isV, hgg]
      rw [e1]; exact this
  | pl p g' =>
    obtain ⟨_, b, h, _⟩ := h
    rw [h]
    exact run_eql_iface_types _ _ _ _ hi hne w
theorem qc_eqErr {ti t' te : TypeId} {ms : Array (String × TypeId)} {i j : TypeInfo} {L : Operand → Option Value} {x y : Operand} (hG : GV TE gs A w) (h : IsErr TE TA gs A w u e) {g : Nat} (hg : g ∈ gs) (hne : TA ≠ TE)
    (hi : P.underlying ti = some (.interface ms)) (hp : P.underlying TE = some (.pointer te)) (hinfo : P.info? TE = some i) (hcomp : i.comparable = true) (hte : P.info? te = some j) (hsz : j.size ≠ 0)
    (ex : L x = some u) (ey : L y = some (sv TE A g)) : Q1 P L (.binOp .eql ti x y t') (Ext w) (.bool (e.isV g)) :=
  fun ρ hρ w' hw dst ty pos af gd => by
    have hr := run_eqErr (P := P) (hG.ext hw) (h.ext hw) hg hne hi hp hinfo hcomp hte hsz
    have hgd : (eqGuard .eql ti x y u (sv TE A g)).run P w' = .ok () w' := by
      rcases h.form with rfl | ⟨t, z, rfl⟩ <;> simp [eqGuard, sv]
    simp only [execOp, hρ x _ ex, hρ y _ ey, Sem.run_bind, hgd, Result.andThen_ok, hr, Sem.run_pure]
end
end Go.Proofs.YtnhjohcgnmogaaaDoor
