/- Lists of resources; a text's bytes where the order is drawn. No program is named here. -/
import Derived.Test.YtnhjohcgnmogaaaDoorByte
set_option linter.unusedVariables false
set_option linter.unusedSimpArgs false
set_option linter.unusedSectionVars false
namespace Go.Proofs.YtnhjohcgnmogaaaDoor
open Go Go.RowKit

theorem Sep.perm {w : World} {rs rs' : List Rs} (p : rs.Perm rs') : ∀ {U : Nat → Prop}, Sep w U rs → Sep w U rs' := by
  induction p with
  | nil => exact fun h => h
  | cons x _ ih => exact fun ⟨f, h1, h2, h3⟩ => ⟨f, h1, h2, ih h3⟩
  | swap x y l => exact fun h => Sep.swap h
  | trans _ _ ih1 ih2 => exact fun h => ih2 (ih1 h)
theorem erase_perm {β : Type} : ∀ (l : List β) (i : Nat) {x : β}, l[i]? = some x → (x :: l.eraseIdx i).Perm l
  | [], i, x, h => by simp at h
  | y :: l, 0, x, h => by
    simp only [List.getElem?_cons_zero, Option.some.injEq] at h
    subst h
    exact List.Perm.refl _
  | y :: l, i + 1, x, h => by
    have ih := erase_perm l i (x := x) (by simpa using h)
    exact (List.Perm.swap _ _ _).trans (ih.cons y)
section
variable {α : Type} {f : α → Rs} {l : List α} {fp : Nat → Prop} {w0 w : World} {rs rs' : List Rs} {c c' : α} {i : Nat}
theorem St.perm (p : rs.Perm rs') (h : St fp w0 w rs) : St fp w0 w rs' := ⟨h.chg, Sep.perm p h.sep⟩
/-- One of a list of resources. -/
theorem St.starAt (hi : l[i]? = some c) (h : St fp w0 w (starR (l.map f) :: rs)) : St fp w0 w (f c :: starR ((l.map f).eraseIdx i) :: rs) := by
  have p := erase_perm (l.map f) i (x := f c) (by simp [hi])
  have h1 : St fp w0 w ((l.map f).eraseIdx i ++ f c :: rs) := h.star.perm (((p.symm.append_right rs)).trans List.perm_middle.symm)
  exact (h1.fold _).perm (List.Perm.swap _ _ _)
theorem St.starPut (hi : i < l.length) (h : St fp w0 w (f c' :: starR ((l.map f).eraseIdx i) :: rs)) : St fp w0 w (starR ((l.set i c').map f) :: rs) := by
  have p := erase_perm ((l.set i c').map f) i (x := f c') (by simp [hi])
  have e2 : ((l.set i c').map f).eraseIdx i = (l.map f).eraseIdx i := by
    rw [List.map_set, List.eraseIdx_set_eq]
  rw [e2] at p
  have h1 : St fp w0 w (starR ((l.map f).eraseIdx i) :: f c' :: rs) := h.perm (List.Perm.swap _ _ _)
  have h2 : St fp w0 w (((l.set i c').map f) ++ rs) := h1.star.perm (List.perm_middle.trans (p.append_right rs))
  exact h2.fold _
theorem St.starNil (f : α → Rs) (h : St fp w0 w rs) : St fp w0 w (starR (([] : List α).map f) :: rs) := h.fold []
theorem St.starAdd (h : St fp w0 w (f c :: starR (l.map f) :: rs)) : St fp w0 w (starR ((l ++ [c]).map f) :: rs) := by
  have h1 : St fp w0 w (starR (l.map f) :: f c :: rs) := h.perm (List.Perm.swap _ _ _)
  have h2 : St fp w0 w ((l.map f ++ [f c]) ++ rs) := by simpa using h1.star
  have := h2.fold (l.map f ++ [f c])
  simpa using this
end

section
variable {P : Program} {ops : Array Oper} {Q : Exit → Act → World → Prop} {rest : List Oper} {a : Act} {w : World} {n k0 h0 fuel d : Nat} {l : List (Nat × Option Value)} {B : List Nat} {listed : Array Bool} {ty : TypeId} {pos : String} {af : Array Edge}
theorem run_bytes {x : Operand} {src T E : TypeId} {s : ByteArray} (hs : P.underlying src = some .string) (hT : P.underlying T = some (.slice E)) (hE : P.underlying E = some (.int .u8)) (hm : s.size ≤ maxLen) (w : World) :
    ∃ v' w', (∀ (ρ : Operand → Value), ρ x = .string s → (execOp ρ ⟨some d, .convert src T x, ty, pos, af, none⟩).run P w = .ok (.value v') w') ∧ Own w' E 1 v' s.size (s.data.toList.flatMap eB) ∧ Ext w w' ∧ blks v' = [w.heap.size] := by
  have hge := grownCap_ge w s.size 0 E
  have hcm : grownCap w s.size 0 E ≤ maxLen := grownCap_le_maxLen w s.size 0 E hm
  have hfl : s.data.toList.flatMap eB = (s.data.map fun b => Value.int .u8 b.toNat).toList := by
    simp only [Array.toList_map]
    have : ∀ (bs : List UInt8), bs.flatMap eB = bs.map fun b => Value.int .u8 b.toNat := by
      intro bs
      induction bs with
      | nil => rfl
      | cons b bs ih => simp [List.flatMap_cons, eB, ih]
    exact this _
  have hsz : s.data.size = s.size := rfl
  refine ⟨.slice (some ⟨w.heap.size, 0, none⟩) s.size (grownCap w s.size 0 E), Lib.bytesWorld w E s, fun ρ hρ => ?_, ?_, ?_, rfl⟩
  · simp [execOp, hρ, Lib.run_convert_string_bytes w src T E s hs hT hE]
  · refine .inr ⟨w.heap.size, grownCap w s.size 0 E, (Lib.bytesCells w E s).toList, rfl, ⟨((Lib.bytesCells w E s).size, (Lib.bytesCells w E s).size + 1), Lib.bytesWorld_at_new w E s, ?_⟩, hge, hcm, ?_, ?_, ?_⟩
    · intro j hj hle
      have : (Lib.bytesCells w E s).toList.length = (Lib.bytesCells w E s).size := rfl
      simp only at hle
      omega
    · simp [Lib.bytesCells, hsz]; omega
    · rw [hfl]; simp [hsz]
    · rw [hfl]; simp only [Lib.bytesCells, Array.toList_append, Nat.mul_one]
      rw [List.take_append_of_le_length (by simp [hsz])]
      rw [List.take_of_length_le (by simp [hsz])]
  · exact ⟨rfl, rfl, rfl, by rw [Lib.bytesWorld_size]; omega, fun k hk => Lib.bytesWorld_at_old w E s k hk⟩
theorem k_bytes (i : Nat) {x : Operand} {src T E : TypeId} {s : ByteArray} (H : Has a n l) (hi : ops[i]? = some ⟨some d, .convert src T x, ty, pos, af, none⟩) (hs : P.underlying src = some .string) (hT : P.underlying T = some (.slice E)) (hE : P.underlying E = some (.int .u8)) (ex : lo l x = some (.string s)) (hm : s.size ≤ maxLen) (hd : Nat.blt d n = true) (hr : Region.ready .any ops listed = [i])
    (h : ∀ v' w', Own w' E 1 v' s.size (s.data.toList.flatMap eB) → Ext w w' → blks v' = [w.heap.size] → ∀ a', Has a' n ((d, some v') :: l) → wpK P ops Q k0 (ChgF B h0 w') fuel (listed.setIfInBounds i true) a' w') :
    wpK P ops Q k0 (ChgF B h0 w) (fuel + 1) listed a w := by
  obtain ⟨v', w', hrr, h1, h2, h3⟩ := run_bytes (x := x) (d := d) (ty := ty) (pos := pos) (af := af) hs hT hE hm w
  exact k_run i (w' := w') H hi (fun ρ hρ => hrr ρ (hρ x _ ex)) hd hr (.inl (ChgF.of_ext h2)) (h v' w' h1 h2 h3)
theorem kk_bytes (i : Nat) {x : Operand} {src T E : TypeId} {s : ByteArray} (H : Has a n l) (hi : ops[i]? = some ⟨some d, .convert src T x, ty, pos, af, none⟩) (hs : P.underlying src = some .string) (hT : P.underlying T = some (.slice E)) (hE : P.underlying E = some (.int .u8)) (ex : lo l x = some (.string s)) (hm : s.size ≤ maxLen) (hd : Nat.blt d n = true)
    (h : ∀ v' w', Own w' E 1 v' s.size (s.data.toList.flatMap eB) → Ext w w' → blks v' = [w.heap.size] → ∀ a', Has a' n ((d, some v') :: l) → wpK P ops Q k0 (ChgF B h0 w') fuel (listed.setIfInBounds i true) a' w') :
    wpKi P ops Q k0 (ChgF B h0 w) fuel listed i a w := by
  obtain ⟨v', w', hrr, h1, h2, h3⟩ := run_bytes (x := x) (d := d) (ty := ty) (pos := pos) (af := af) hs hT hE hm w
  exact kk_run i (w' := w') H hi (fun ρ hρ => hrr ρ (hρ x _ ex)) hd (.inl (ChgF.of_ext h2)) (h v' w' h1 h2 h3)
end
section
variable {P : Program} {ops : Array Oper} {Q : Exit → Act → World → Prop} {k0 : Nat} {S : World → Prop}
/-- What says the same in every world may be taken first at any time. -/
theorem wpK_firstT {i : Nat} {oi : Oper} {v : Value} (hi : ops[i]? = some oi) (hsel : ∀ (j : Nat) (o : Oper) cs b, ops[j]? = some o → o.op ≠ .select cs b)
    (hQ : ∀ c a w, Q (.panic c) (a.put oi.dst v) w → Q (.panic c) a w) (hne : i ≠ k0) :
    ∀ (fuel : Nat) (listed : Array Bool) (a : Act) (w : World), listed.size = ops.size →
      (∀ j oj, ops[j]? = some oj → j ≠ i → listed.getD j true = false → (∀ e ∈ oj.after, Region.binds .any e = true → e.on ≠ i) → oi.apart ops oj = true) →
      i ∈ Region.ready .any ops listed → YieldsIf P ops (fun _ => True) oi v a → (act k0 listed = true → S w) →
      wpK P ops Q k0 S fuel (listed.setIfInBounds i true) (a.put oi.dst v) w → wpK P ops Q k0 S (fuel + 1) listed a w := by
  have ha : ∀ li : Array Bool, act k0 (li.setIfInBounds i true) = act k0 li := fun li => by
    unfold act; rw [getD_set_ne false hne]
  intro fuel
  induction fuel with
  | zero =>
    intro listed a w hsz _ hr hy hS H
    refine ⟨fun h => (by rw [h] at hr; cases hr), fun j hj => ?_⟩
    by_cases hji : j = i
    · subst hji; exact hy.wpOp hi trivial ⟨fun h => hS (by rwa [ha] at h), H⟩
    · have := ready_mono hj hji
      rw [H.1] at this
      cases this
  | succ fuel ih =>
    intro listed a w hsz hfree hr hy hS H
    refine ⟨fun h => (by rw [h] at hr; cases hr), fun j hj => ?_⟩
    by_cases hji : j = i
    · subst hji; exact hy.wpOp hi trivial ⟨fun h => hS (by rwa [ha] at h), H⟩
    · have h1 := H.2 j (ready_mono hj hji)
      obtain ⟨hjun, oj, hoj, hall⟩ := mem_ready.1 hj
      have hnot : ∀ e ∈ oj.after, Region.binds .any e = true → e.on ≠ i := fun e he hb heq => by
        have h1 := hall e he hb
        have h0 := (mem_ready.1 hr).1
        rw [heq] at h1
        rcases Nat.lt_or_ge i listed.size with h' | h'
        · simp [h'] at h0 h1; rw [h0] at h1; cases h1
        · simp [Array.getElem?_eq_none h'] at h1
      have h2 := wpOp_putIf hoj (hfree j oj hoj hji hjun hnot) (fun cs b => hsel i oi cs b hi) (fun cs b => hsel j oj cs b hoj) hQ hy h1
      have hfree' : ∀ k ok, ops[k]? = some ok → k ≠ i → (listed.setIfInBounds j true).getD k true = false →
          (∀ e ∈ ok.after, Region.binds .any e = true → e.on ≠ i) → oi.apart ops ok = true := fun k ok hk hki hun hno => by
        refine hfree k ok hk hki ?_ hno
        by_cases hjk : j = k
        · subst hjk; exact hjun
        · rw [getD_set_ne true hjk] at hun; exact hun
      have hcm : (listed.setIfInBounds i true).setIfInBounds j true = (listed.setIfInBounds j true).setIfInBounds i true := Array.setIfInBounds_comm _ _ (Ne.symm hji)
      refine wpOp_mono (fun a' w' h3 => ?_) h2
      have hs' : act k0 (listed.setIfInBounds j true) = true → S w' := fun h => h3.2.1 (by rw [hcm, ha]; exact h)
      refine ⟨hs', ih (listed.setIfInBounds j true) a' w' (by simpa using hsz) hfree' (ready_mono hr (Ne.symm hji)) h3.1 hs' ?_⟩
      rw [← hcm]
      exact h3.2.2
end
section
variable {P : Program} {ops : Array Oper} {Q : Exit → Act → World → Prop} {a : Act} {n : Nat} {l : List (Nat × Option Value)} {w : World} {B : List Nat} {k0 h0 : Nat}
  {op : Op} {ty : TypeId} {pos : String} {af : Array Edge} {d fuel : Nat} {v : Value} {listed : Array Bool}
theorem k_takeT (i : Nat) (H : Has a n l) (hi : ops[i]? = some ⟨some d, op, ty, pos, af, none⟩) (q : Q1 P (lo l) op (fun _ => True) v) (hd : Nat.blt d n = true) (hs : Region.noSelect ops = true) (hf : Region.free .any ops listed i = true)
    (hr : (Region.ready .any ops listed).contains i = true) (hb : (!(Nat.beq i k0) && (Nat.beq listed.size ops.size)) = true) (hQ : ∀ c a w, Q (.panic c) (a.put (some d) v) w → Q (.panic c) a w)
    (h : ∀ a', Has a' n ((d, some v) :: l) → wpK P ops Q k0 (ChgF B h0 w) fuel (listed.setIfInBounds i true) a' w) : wpK P ops Q k0 (ChgF B h0 w) (fuel + 1) listed a w := by
  simp only [Bool.and_eq_true, Bool.not_eq_true'] at hb
  obtain ⟨h2, h4⟩ := hb
  exact wpK_firstT (oi := ⟨some d, op, ty, pos, af, none⟩) (v := v) hi (Region.noSelect_spec hs) hQ (fun e => by rw [e, Nat.beq_refl] at h2; cases h2) fuel listed a w (Nat.eq_of_beq_eq_true h4) (Region.free_spec hi hf) (by simpa using hr)
    (.inl ⟨by simp [Region.wanted], fun w' hw => q a.eval H.eval w' hw (some d) ty pos af none⟩) (fun _ => ChgF.refl _ _ _) (h _ (H.put d v hd))
end
end Go.Proofs.YtnhjohcgnmogaaaDoor
