/- Copies of lists whose elements have lists: first their cells, then, one by one, lists of their own. No program is named here. -/
import Derived.Test.YtnhjohcgnmogaaaDoorPtr
set_option linter.unusedVariables false
set_option linter.unusedSimpArgs false
set_option linter.unusedSectionVars false
namespace Go.Proofs.YtnhjohcgnmogaaaDoor
open Go Go.RowKit

/-- An element as its cells. -/
structure RawC (k : Nat) where
  cs : List Value
  len : cs.length = k
  one : ∀ u ∈ cs, u.oneCell' = true
def rawE {k : Nat} (c : RawC k) : List Value := c.cs
theorem rawE_one {k : Nat} (z : RawC k) : ∀ u ∈ rawE z, u.oneCell' = true := z.one
theorem rawE_len {k : Nat} (z : RawC k) : (rawE z).length = k := z.len
section
variable {α : Type} {R : World → List Value → α → Prop} {E k n : Nat} {v u : Value} {xs : List α} {x : α} {fp : Nat → Prop} {w0 w w' : World} {rs : List Rs}
theorem SlR.raw (hone : ∀ w cs x, R w cs x → ∀ u ∈ cs, u.oneCell' = true) (h : SlR w k R v xs) : ∃ ys : List (RawC k), SlR w k (Flat rawE) v ys ∧ DIn k R (ys.map RawC.cs) xs w ∧ ys.length = xs.length := by
  obtain ⟨A, c, rfl, h1, h2, h3, h4⟩ := h
  cases A with
  | none =>
    obtain ⟨rfl, rfl⟩ := h3 rfl
    exact ⟨[], SlR.nil _ _ _, trivial, rfl⟩
  | some ad =>
    have key : ∀ (ys : List α) (o : Nat), (∀ i x, ys[i]? = some x → xs[o + i]? = some x) → ∃ rs : List (RawC k), rs.length = ys.length ∧ DIn k R (rs.map RawC.cs) ys w ∧ ∀ (i : Nat) (r : RawC k), rs[i]? = some r → ∀ j u, r.cs[j]? = some u → w.cell? (ad.add ((o + i) * k + j)) = some u := by
      intro ys
      induction ys with
      | nil => intro o _; exact ⟨[], rfl, trivial, fun i r h => by simp at h⟩
      | cons y ys ih =>
        intro o ho
        obtain ⟨cs, g1, g2, g3⟩ := h4 ad rfl o y (ho 0 y rfl)
        obtain ⟨rs, k1, k2, k3⟩ := ih (o + 1) (fun i x hx => by have := ho (i + 1) x (by simpa using hx); rw [Nat.add_assoc, Nat.add_comm 1 i]; exact this)
        refine ⟨⟨cs, g1, hone _ _ _ g2⟩ :: rs, by simp [k1], ⟨⟨g1, hone _ _ _ g2, g2⟩, k2⟩, fun i r hr j u hu => ?_⟩
        cases i with
        | zero => simp at hr; subst hr; exact g3 j u hu
        | succ i =>
          have := k3 i r (by simpa using hr) j u hu
          rwa [show o + 1 + i = o + (i + 1) by omega] at this
    obtain ⟨ys, k1, k2, k3⟩ := key xs 0 (fun i x hx => by simpa using hx)
    refine ⟨ys, ⟨some ad, c, by rw [k1], by rw [k1]; exact h1, h2, (by intro h; cases h), fun ad' ha i r hr => ?_⟩, k2, k1⟩
    cases ha
    exact ⟨r.cs, r.len, rfl, fun j u hu => by have := k3 i r hr j u hu; simpa using this⟩
theorem DIn.get {x : α} : ∀ {css : List (List Value)} {xs : List α} {i : Nat}, DIn k R css xs w → xs[i]? = some x → ∃ cs, css[i]? = some cs ∧ cs.length = k ∧ (∀ u ∈ cs, u.oneCell' = true) ∧ R w cs x
  | [], [], i, _, h => by simp at h
  | cs :: css, y :: xs, 0, ⟨⟨h1, h2, h3⟩, _⟩, h => by simp at h; subst h; exact ⟨cs, rfl, h1, h2, h3⟩
  | cs :: css, y :: xs, i + 1, ⟨_, h4⟩, h => by
    obtain ⟨c, g1, g2⟩ := DIn.get (i := i) h4 (by simpa using h)
    exact ⟨c, by simpa using g1, g2⟩
  | [], y :: xs, i, h, _ => h.elim
  | cs :: css, [], i, h, _ => h.elim
theorem DIn.drop : ∀ {j : Nat} {css : List (List Value)} {xs : List α}, DIn k R css xs w → DIn k R (css.drop j) (xs.drop j) w
  | 0, _, _, h => h
  | j + 1, [], [], _ => trivial
  | j + 1, c :: css, x :: xs, ⟨_, h⟩ => DIn.drop (j := j) h
  | j + 1, [], x :: xs, h => h.elim
  | j + 1, c :: css, [], h => h.elim
/-- A list of the call's own: its first c elements have lists of the call's own, the others those that were there where the call began. -/
def copR (w0 : World) (E k : Nat) (R : World → List Value → α → Prop) (v : Value) (xs : List α) (c : Nat) : Rs :=
  exR fun css : List (List Value) => starR [ownR E k v xs.length css.flatten, anyR (DIn k R (css.take c) (xs.take c)), pureR (DIn k R (css.drop c) (xs.drop c) w0)]
theorem St.mkCop {c : Nat} {css : List (List Value)} (hp : DIn k R (css.drop c) (xs.drop c) w0) (h : St fp w0 w (ownR E k v xs.length css.flatten :: anyR (DIn k R (css.take c) (xs.take c)) :: rs)) : St fp w0 w (copR w0 E k R v xs c :: rs) := by
  have h2 := h.mkPure hp
  refine St.mkEx (f := fun css : List (List Value) => starR [ownR E k v xs.length css.flatten, anyR (DIn k R (css.take c) (xs.take c)), pureR (DIn k R (css.drop c) (xs.drop c) w0)]) css ?_
  have h3 := (h2.pick 1 rfl).pick 2 rfl
  dsimp only [List.eraseIdx] at h3
  have h4 := (h3.pick 1 rfl)
  dsimp only [List.eraseIdx] at h4
  exact St.fold [_, _, _] h4
theorem St.cop {c : Nat} (h : St fp w0 w (copR w0 E k R v xs c :: rs)) : ∃ css : List (List Value), DIn k R (css.drop c) (xs.drop c) w0 ∧ St fp w0 w (ownR E k v xs.length css.flatten :: anyR (DIn k R (css.take c) (xs.take c)) :: rs) := by
  obtain ⟨css, h⟩ := h.ex
  have h2 := h.star
  obtain ⟨hp, h3⟩ := (h2.pick 2 rfl).pure
  exact ⟨css, hp, h3⟩
theorem St.toCop {ys : List (RawC k)} (hD : DIn k R (ys.map RawC.cs) xs w0) (h : St fp w0 w (ownR E k v ys.length (ys.flatMap rawE) :: rs)) : St fp w0 w (copR w0 E k R v xs 0 :: rs) := by
  have hl : ys.length = xs.length := by have := hD.len; simpa using this
  refine St.mkCop (css := ys.map RawC.cs) (by simpa using hD) ?_
  have h2 := (h.trivAny (F := DIn k R [] []) fun _ => trivial).pick 1 rfl
  dsimp only [List.eraseIdx] at h2
  have e : ys.flatMap rawE = (ys.map RawC.cs).flatten := by rw [List.flatMap]; rfl
  rw [hl, e] at h2
  simpa using h2
theorem St.copSl (i : Nat) {c : Nat} (h : St NB w0 w rs) (hi : rs[i]? = some (copR w0 E k R v xs c)) (hR : Mono R) : SlR w k R v xs := by
  have h1 := h.pick i hi
  obtain ⟨css, hp, h2⟩ := h1.cop
  have hO := h2.own 0 rfl
  have hA : DIn k R (css.take c) (xs.take c) w := h2.any 1 rfl
  have hB : DIn k R (css.drop c) (xs.drop c) w := hp.mono hR h.x.agr
  have := DIn.app hB hA
  rw [List.take_append_drop, List.take_append_drop] at this
  exact hO.slD this rfl
theorem St.copDeep {c : Nat} (hc : c = xs.length) (h : St fp w0 w (copR w0 E k R v xs c :: rs)) : St fp w0 w (deepR E k R v xs :: rs) := by
  obtain ⟨css, hp, h2⟩ := h.cop
  have hl := hp.len
  rw [hc, List.drop_length, List.length_nil, List.length_drop] at hl
  have hA : DIn k R (css.take c) (xs.take c) w := h2.any 1 rfl
  have hl2 := hA.len
  rw [List.length_take, List.length_take] at hl2
  have e1 : css.take c = css := List.take_of_length_le (by omega)
  have e2 : xs.take c = xs := List.take_of_length_le (by omega)
  rw [e1, e2] at h2
  exact h2.mkDeep
end
section
variable {P : Program} {ops : Array Oper} {Q : Exit → Act → World → Prop} {rest : List Oper} {a : Act} {n : Nat} {l : List (Nat × Option Value)} {w : World}
  {ty : TypeId} {pos : String} {af : Array Edge} {d : Nat} {v u : Value} {k0 fuel h0 : Nat} {listed : Array Bool} {B : List Nat}
variable {α : Type} {R : World → List Value → α → Prop} {E k : Nat} {xs : List α} {x0 x' : α} {w0 : World} {rs : List Rs}
/-- An element's list becomes one of the call's own: what is left behind the store. -/
theorem St.copSet {c o : Nat} {F : World → Prop} {css : List (List Value)} {w' : World} (hp : DIn k R (css.drop c) (xs.drop c) w0) (hx : xs[c]? = some x0) (hlt : o < k) (h1 : u.oneCell' = true)
    (hR : ∀ w' cs, R w0 cs x0 → F w' → R w' (cs.set o u) x')
    (h : St NB w0 w' (ownR E k v xs.length (css.flatten.set (c * k + o) u) :: anyR F :: anyR (DIn k R (css.take c) (xs.take c)) :: rs)) : St NB w0 w' (copR w0 E k R v (xs.set c x') (c + 1) :: rs) := by
  have hcl : c < xs.length := (List.getElem?_eq_some_iff.1 hx).1
  have hx0 : (xs.drop c)[0]? = some x0 := by rw [List.getElem?_drop]; simpa using hx
  obtain ⟨cs, g1, g2, g3, g4⟩ := hp.get hx0
  have hA : DIn k R (css.take c) (xs.take c) w' := h.any 2 rfl
  have hlA := hA.len
  rw [List.length_take, List.length_take] at hlA
  have hlB := hp.len
  rw [List.length_drop, List.length_drop] at hlB
  have hcc : css[c]? = some cs := by rw [List.getElem?_drop] at g1; simpa using g1
  have hccl : c < css.length := (List.getElem?_eq_some_iff.1 hcc).1
  have hll : css.length = xs.length := by omega
  have hlen : ∀ d ∈ css, d.length = k := by
    intro d hd
    have hB := hp
    have hd2 : d ∈ css.take c ++ css.drop c := by rw [List.take_append_drop]; exact hd
    have aux : ∀ {a : List (List Value)} {ys : List α} {w : World}, DIn k R a ys w → ∀ e ∈ a, e.length = k := by
      intro a
      induction a with
      | nil => intro ys w _ e he; cases he
      | cons b a ih =>
        intro ys w h e he
        cases ys with
        | nil => exact h.elim
        | cons y ys =>
          rcases List.mem_cons.1 he with rfl | he
          · exact h.1.1
          · exact ih h.2 e he
    rcases List.mem_append.1 hd2 with hd | hd
    · exact aux hA d hd
    · exact aux hp d hd
  have hset : css.flatten.set (c * k + o) u = (css.set c (cs.set o u)).flatten := by
    have : ∀ (css : List (List Value)) (c : Nat) (cs : List Value), (∀ d ∈ css, d.length = k) → css[c]? = some cs → css.flatten.set (c * k + o) u = (css.set c (cs.set o u)).flatten := by
      intro css
      induction css with
      | nil => intro c cs _ h; simp at h
      | cons b css ih =>
        intro c cs hl h
        have hb := hl b (List.mem_cons_self ..)
        cases c with
        | zero =>
          simp at h; subst h
          simp only [Nat.zero_mul, Nat.zero_add, List.flatten_cons, List.set_cons_zero]
          rw [List.set_append_left _ _ (by omega)]
        | succ c =>
          have e : (c + 1) * k + o - b.length = c * k + o := by rw [hb, Nat.succ_mul]; omega
          simp only [List.flatten_cons, List.set_cons_succ]
          rw [List.set_append_right _ _ (by rw [hb, Nat.succ_mul]; omega), e, ih c cs (fun d hd => hl d (List.mem_cons_of_mem _ hd)) (by simpa using h)]
    exact this css c cs hlen hcc
  rw [hset] at h
  have hcs1 : ∀ z ∈ cs.set o u, z.oneCell' = true := by
    intro z hz
    rcases List.mem_or_eq_of_mem_set hz with hz | rfl
    · exact g3 z hz
    · exact h1
  have hRw : R w0 cs x0 := g4
  refine St.mkCop (css := css.set c (cs.set o u)) ?_ ?_
  · have e1 : (css.set c (cs.set o u)).drop (c + 1) = css.drop (c + 1) := by rw [List.drop_set_of_lt (by omega)]
    have e2 : (xs.set c x').drop (c + 1) = xs.drop (c + 1) := by rw [List.drop_set_of_lt (by omega)]
    rw [e1, e2]
    have := hp.drop (j := 1)
    rw [List.drop_drop, List.drop_drop] at this
    exact this
  · have e1 : (css.set c (cs.set o u)).take (c + 1) = css.take c ++ [cs.set o u] := by
      rw [List.take_add_one, List.take_set_of_le (Nat.le_refl _)]
      simp [hccl]
    have e2 : (xs.set c x').take (c + 1) = xs.take c ++ [x'] := by
      rw [List.take_add_one, List.take_set_of_le (Nat.le_refl _)]
      simp [hcl]
    rw [e1, e2, List.length_set]
    have h5 := (h.pick 1 rfl)
    dsimp only [List.eraseIdx] at h5
    have h6 := h5.pick 2 rfl
    dsimp only [List.eraseIdx] at h6
    have h7 := h6.anyAnd
    have h8 := h7.anyMono (G := DIn k R (css.take c ++ [cs.set o u]) (xs.take c ++ [x'])) (fun w'' hw => DIn.app (css' := [cs.set o u]) (xs' := [x']) ⟨⟨by rw [List.length_set]; exact g2, hcs1, hR w'' cs hRw hw.2⟩, trivial⟩ hw.1)
    have h9 := h8.pick 1 rfl
    dsimp only [List.eraseIdx] at h9
    exact h9
variable {A : Option Addr} {ad : Addr} {x y : Operand} {t m n0 cap i c o : Nat} {F : World → Prop}
theorem St.copStore (hS : St NB w0 w (anyR F :: copR w0 E k R v xs c :: rs)) (hic : i = c) (hv : v = .slice A n0 cap) (hA : A = some ad) (hx : xs[i]? = some x0) (ho : o < k) (h1 : u.oneCell' = true)
    (hR : ∀ w' cs, R w0 cs x0 → F w' → R w' (cs.set o u) x') :
    ∃ b cp css, v = .slice (some ⟨b, 0, none⟩) xs.length cp ∧ (ad.add (i * k)).add o = ⟨b, i * k + o, none⟩ ∧ i * k + o < xs.length * k ∧ Own w E k v xs.length css ∧
      ∀ w', Own w' E k v xs.length (css.set (i * k + o) u) → Chg [b] w w' → St NB w0 w' (copR w0 E k R v (xs.set i x') (c + 1) :: rs) := by
  subst hic
  have h2 := hS.pick 1 rfl
  dsimp only [List.eraseIdx] at h2
  obtain ⟨css, hp, h3⟩ := h2.cop
  have hO := h3.own 0 rfl
  have hi := (List.getElem?_eq_some_iff.1 hx).1
  rcases id hO with ⟨rfl, h0, _⟩ | ⟨b, cp, cs, hvb, hB', q2, q3, q4, q5, q6⟩
  · omega
  · refine ⟨b, cp, css.flatten, hvb, ?_, ?_, hO, fun w' hO' hC => ?_⟩
    · have e := hvb.symm.trans hv
      cases e; cases hA
      rw [plain_add, plain_add']
    · have := Nat.mul_le_mul_right k (show i + 1 ≤ xs.length from hi)
      rw [Nat.succ_mul] at this; omega
    · have h4 := h3.setOwn hO' (by rw [hvb]; exact hC) (.inl rfl)
      have h5 := h4.pick 2 rfl
      dsimp only [List.eraseIdx] at h5
      have h6 := h5.pick 1 rfl
      dsimp only [List.eraseIdx] at h6
      exact St.copSet hp hx ho h1 hR h6
theorem k_storeCop (j : Nat) (H : Has a n l) (hi : ops[j]? = some ⟨none, .store t x y, ty, pos, af, none⟩) (ex : lo l x = some (.pointer (some ((ad.add (i * k)).add o)))) (ey : lo l y = some u) (hs : sizeB P t = some 1)
    (hS : St NB w0 w (anyR F :: copR w0 E k R v xs c :: rs)) (hic : i = c) (hv : v = .slice A n0 cap) (hA : A = some ad) (hx : xs[i]? = some x0) (ho : o < k) (h1 : u.oneCell' = true)
    (hR : ∀ w' cs, R w0 cs x0 → F w' → R w' (cs.set o u) x') (hr : Region.ready .any ops listed = [j]) (hB : act k0 (listed.setIfInBounds j true) = false)
    (h : ∀ w', St NB w0 w' (copR w0 E k R v (xs.set i x') (c + 1) :: rs) → w.heap.size ≤ w'.heap.size → ∀ a', Has a' n l → wpK P ops Q k0 (ChgF B h0 w') fuel (listed.setIfInBounds j true) a' w') :
    wpK P ops Q k0 (ChgF B h0 w) (fuel + 1) listed a w := by
  obtain ⟨b, cp, css, hvb, hadd, hlt, hO, hk⟩ := hS.copStore hic hv hA hx ho h1 hR
  rw [hadd] at ex
  rw [hvb] at hO hk
  exact k_storeE1 j H hi ex ey hs h1 hO hlt hr hB fun w' hO' hC a' H' => h w' (by rw [hvb]; exact hk w' hO' hC) hC.size a' H'
theorem n_storeCop (H : Has a n l) (ex : lo l x = some (.pointer (some ((ad.add (i * k)).add o)))) (ey : lo l y = some u) (hs : sizeB P t = some 1)
    (hS : St NB w0 w (anyR F :: copR w0 E k R v xs c :: rs)) (hic : i = c) (hv : v = .slice A n0 cap) (hA : A = some ad) (hx : xs[i]? = some x0) (ho : o < k) (h1 : u.oneCell' = true)
    (hR : ∀ w' cs, R w0 cs x0 → F w' → R w' (cs.set o u) x')
    (h : ∀ w', St NB w0 w' (copR w0 E k R v (xs.set i x') (c + 1) :: rs) → w.heap.size ≤ w'.heap.size → ∀ a', Has a' n l → wpList P ops Q rest a' w') :
    wpList P ops Q (⟨none, .store t x y, ty, pos, af, none⟩ :: rest) a w := by
  obtain ⟨b, cp, css, hvb, hadd, hlt, hO, hk⟩ := hS.copStore hic hv hA hx ho h1 hR
  rw [hadd] at ex
  rw [hvb] at hO hk
  exact n_storeE1 H ex ey hs h1 hO hlt fun w' hO' hC a' H' => h w' (by rw [hvb]; exact hk w' hO' hC) hC.size a' H'
end
/-! ### Pointers that may be nil -/
section
variable {α : Type} {g : α → Nat → Rs} {v : Value} {x : α} {o : Option α} {fp : Nat → Prop} {w0 w : World} {rs : List Rs} {b : Nat}
def optR (g : α → Nat → Rs) (v : Value) : Option α → Rs
  | none => pureR (v = .pointer none)
  | some x => exR fun b : Nat => starR [pureR (v = .pointer (some ⟨b, 0, none⟩)), g x b]
theorem St.optNone (g : α → Nat → Rs) (h : St fp w0 w rs) : St fp w0 w (optR g (.pointer none) none :: rs) := h.mkPure rfl
theorem St.optSome (x : α) (h : St fp w0 w (g x b :: rs)) : St fp w0 w (optR g (.pointer (some ⟨b, 0, none⟩)) (some x) :: rs) :=
  St.mkEx (f := fun b' : Nat => starR [pureR (Value.pointer (some ⟨b, 0, none⟩) = .pointer (some ⟨b', 0, none⟩)), g x b']) b ((h.mkPure rfl).fold [_, _])
theorem St.optOpen (hx : o = some x) (h : St fp w0 w (optR g v o :: rs)) : ∃ b, v = .pointer (some ⟨b, 0, none⟩) ∧ St fp w0 w (g x b :: rs) := by
  subst hx
  obtain ⟨b, h⟩ := St.ex (f := fun b : Nat => starR [pureR (v = .pointer (some ⟨b, 0, none⟩)), g x b]) h
  obtain ⟨hv, h⟩ := h.star.pure
  exact ⟨b, hv, h⟩
end
end Go.Proofs.YtnhjohcgnmogaaaDoor
