/- Lists of the call's own whose elements hold lists of the call's own. No program is named here. -/
import Derived.Test.YtnhjohcgnmogaaaDoorDeep
set_option linter.unusedVariables false
set_option linter.unusedSimpArgs false
set_option linter.unusedSectionVars false
namespace Go.Proofs.YtnhjohcgnmogaaaDoor
open Go Go.RowKit

theorem Sep.unpick {w : World} : ∀ (rs : List Rs) (i : Nat) {r : Rs} {U : Nat → Prop}, i < rs.length → Sep w U (r :: rs.eraseIdx i) → Sep w U (rs.set i r)
  | [], i, r, U, h, _ => by simp at h
  | x :: rs, 0, r, U, _, h => h
  | x :: rs, i + 1, r, U, hi, h => by
    obtain ⟨f, h1, h2, h3⟩ := Sep.swap h
    exact ⟨f, h1, h2, Sep.unpick rs i (by simpa using hi) h3⟩
section
variable {fp : Nat → Prop} {w0 w w' : World} {rs rows : List Rs} {r : Rs} {i : Nat}
theorem St.rowPick (hr : rows[i]? = some r) (h : St fp w0 w (starR rows :: rs)) : St fp w0 w (r :: starR (rows.eraseIdx i) :: rs) := by
  obtain ⟨c, f, ⟨h1, h2⟩, h3, h4⟩ := h
  obtain ⟨g, g1, g2, g3⟩ := Sep.pick rows i hr h1
  exact ⟨c, g, g1, fun b hb => h3 b (g2 b hb), fun b => f b ∧ ¬ g b, ⟨g3, fun b hb => h2 b hb.1⟩, fun b hb => ⟨h3 b hb.1, hb.2⟩, h4.mono fun b hb => ⟨⟨hb.1, fun hg => hb.2 (g2 b hg)⟩, fun hc => hb.2 hc.1⟩⟩
theorem St.rowPut (hi : i < rows.length) (h : St fp w0 w (r :: starR (rows.eraseIdx i) :: rs)) : St fp w0 w (starR (rows.set i r) :: rs) := by
  obtain ⟨c, g, g1, g2, f, ⟨f1, f2⟩, f3, h4⟩ := h
  exact ⟨c, fun b => g b ∨ f b, ⟨Sep.unpick rows i hi ⟨g, g1, fun b hb => .inl hb, f1.mono fun b hb => ⟨.inr hb, (f3 b hb).2⟩⟩, fun b hb => hb.elim (r.lt g1 b) (f2 b)⟩, fun b hb => hb.elim (g2 b) (fun hb => (f3 b hb).1), h4.mono fun b hb => ⟨hb.1.1, fun hc => hc.elim hb.1.2 hb.2⟩⟩
theorem St.rowCons (h : St fp w0 w (r :: starR rows :: rs)) : St fp w0 w (starR (r :: rows) :: rs) := by
  obtain ⟨c, g, g1, g2, f, ⟨f1, f2⟩, f3, h4⟩ := h
  exact ⟨c, fun b => g b ∨ f b, ⟨⟨g, g1, fun b hb => .inl hb, f1.mono fun b hb => ⟨.inr hb, (f3 b hb).2⟩⟩, fun b hb => hb.elim (r.lt g1 b) (f2 b)⟩, fun b hb => hb.elim (g2 b) (fun hb => (f3 b hb).1), h4.mono fun b hb => ⟨hb.1.1, fun hc => hc.elim hb.1.2 hb.2⟩⟩
theorem St.rowSnoc (h : St fp w0 w (r :: starR rows :: rs)) : St fp w0 w (starR (rows ++ [r]) :: rs) := by
  obtain ⟨c, g, g1, g2, f, ⟨f1, f2⟩, f3, h4⟩ := h
  have hr : Sep w g [r] := ⟨g, g1, fun b hb => hb, trivial⟩
  exact ⟨c, fun b => g b ∨ f b, ⟨f1.app hr (fun b hb => (f3 b hb).2) (fun b hb => .inr hb) (fun b hb => .inl hb), fun b hb => hb.elim (r.lt g1 b) (f2 b)⟩, fun b hb => hb.elim (g2 b) (fun hb => (f3 b hb).1), h4.mono fun b hb => ⟨hb.1.1, fun hc => hc.elim hb.1.2 hb.2⟩⟩
end
section
variable {β : Type}
theorem flat_get {k : Nat} : ∀ {css : List (List β)} {i j : Nat} {cs : List β} {u : β}, (∀ cs ∈ css, cs.length = k) → css[i]? = some cs → cs[j]? = some u → css.flatten[i * k + j]? = some u
  | [], i, j, cs, u, _, h, _ => by simp at h
  | c :: css, 0, j, cs, u, hk, h, hu => by
    simp only [List.getElem?_cons_zero, Option.some.injEq] at h
    subst h
    rw [List.flatten_cons, List.getElem?_append_left (by have := (List.getElem?_eq_some_iff.1 hu).1; omega)]
    simpa using hu
  | c :: css, i + 1, j, cs, u, hk, h, hu => by
    have hc := hk c (List.mem_cons_self ..)
    rw [List.flatten_cons, List.getElem?_append_right (by rw [hc, Nat.succ_mul]; omega), hc]
    have e : (i + 1) * k + j - k = i * k + j := by rw [Nat.succ_mul]; omega
    rw [e]
    exact flat_get (fun x hx => hk x (List.mem_cons_of_mem _ hx)) (by simpa using h) hu
theorem flat_setC {k : Nat} {u : β} : ∀ {css : List (List β)} {i j : Nat} {cs : List β}, (∀ cs ∈ css, cs.length = k) → css[i]? = some cs → j < k → (css.set i (cs.set j u)).flatten = css.flatten.set (i * k + j) u
  | [], i, j, cs, _, h, _ => by simp at h
  | c :: css, 0, j, cs, hk, h, hj => by
    simp only [List.getElem?_cons_zero, Option.some.injEq] at h
    subst h
    have hc := hk c (List.mem_cons_self ..)
    rw [List.set_cons_zero, List.flatten_cons, List.flatten_cons, List.set_append_left _ _ (by omega)]
    simp
  | c :: css, i + 1, j, cs, hk, h, hj => by
    have hc := hk c (List.mem_cons_self ..)
    rw [List.set_cons_succ, List.flatten_cons, List.flatten_cons, List.set_append_right _ _ (by rw [hc, Nat.succ_mul]; omega), hc]
    have e : (i + 1) * k + j - k = i * k + j := by rw [Nat.succ_mul]; omega
    rw [e, flat_setC (fun x hx => hk x (List.mem_cons_of_mem _ hx)) (by simpa using h) hj]
end
section
variable {α : Type} {El : List Value → α → Rs} {R : World → List Value → α → Prop} {k : Nat}
/-- Each element's memory. -/
def rowsG (El : List Value → α → Rs) : List (List Value) → List α → List Rs
  | cs :: css, x :: xs => El cs x :: rowsG El css xs
  | _, _ => []
theorem rowsG_at : ∀ {css : List (List Value)} {xs : List α} {i : Nat} {x : α}, css.length = xs.length → xs[i]? = some x → ∃ cs, css[i]? = some cs ∧ (rowsG El css xs)[i]? = some (El cs x)
  | [], [], i, x, _, h => by simp at h
  | [], y :: xs, i, x, h, _ => by simp at h
  | cs :: css, [], i, x, h, _ => by simp at h
  | cs :: css, y :: xs, 0, x, _, h => by
    simp only [List.getElem?_cons_zero, Option.some.injEq] at h
    subst h
    exact ⟨cs, rfl, rfl⟩
  | cs :: css, y :: xs, i + 1, x, hl, h => by
    obtain ⟨c, h1, h2⟩ := rowsG_at (css := css) (xs := xs) (i := i) (by simpa using hl) (by simpa using h)
    exact ⟨c, by simpa using h1, by simpa [rowsG] using h2⟩
theorem rowsG_len : ∀ {css : List (List Value)} {xs : List α}, css.length = xs.length → (rowsG El css xs).length = xs.length
  | [], [], _ => rfl
  | [], y :: xs, h => by simp at h
  | cs :: css, [], h => by simp at h
  | cs :: css, y :: xs, h => by simp [rowsG, rowsG_len (css := css) (xs := xs) (by simpa using h)]
theorem rowsG_set {cs' : List Value} {x' : α} : ∀ {css : List (List Value)} {xs : List α} {i : Nat}, rowsG El (css.set i cs') (xs.set i x') = (rowsG El css xs).set i (El cs' x')
  | [], [], i => rfl
  | [], y :: xs, i => by cases i <;> rfl
  | cs :: css, [], i => by cases i <;> rfl
  | cs :: css, y :: xs, 0 => rfl
  | cs :: css, y :: xs, i + 1 => by simp [rowsG, rowsG_set (css := css) (xs := xs) (i := i)]
theorem rowsG_app {cs' : List Value} {x' : α} : ∀ {css : List (List Value)} {xs : List α}, css.length = xs.length → rowsG El (css ++ [cs']) (xs ++ [x']) = rowsG El css xs ++ [El cs' x']
  | [], [], _ => rfl
  | [], y :: xs, h => by simp at h
  | cs :: css, [], h => by simp at h
  | cs :: css, y :: xs, h => by simp [rowsG, rowsG_app (css := css) (xs := xs) (by simpa using h)]
/-- As many elements' cells as elements, each a whole element. -/
def CsOk (k : Nat) (css : List (List Value)) (xs : List α) : Prop := css.length = xs.length ∧ ∀ cs ∈ css, cs.length = k ∧ ∀ u ∈ cs, u.oneCell' = true
theorem rowsG_in (hEl : ∀ {w g cs x}, (El cs x).P w g → R w cs x) {w : World} : ∀ {css : List (List Value)} {xs : List α} {U : Nat → Prop}, CsOk k css xs → Sep w U (rowsG El css xs) → DIn k R css xs w
  | [], [], U, _, _ => trivial
  | [], y :: xs, U, h, _ => by simp [CsOk] at h
  | cs :: css, [], U, h, _ => by simp [CsOk] at h
  | cs :: css, y :: xs, U, h, ⟨f, h1, h2, h3⟩ => by
    have hc := h.2 cs (List.mem_cons_self ..)
    exact ⟨⟨hc.1, hc.2, hEl h1⟩, rowsG_in hEl ⟨by simpa using h.1, fun c hc => h.2 c (List.mem_cons_of_mem _ hc)⟩ h3⟩
/-- A list of the call's own, each element with memory of its own. -/
def nestR (T k : Nat) (El : List Value → α → Rs) (v : Value) (xs : List α) : Rs := exR fun css : List (List Value) => starR [ownR T k v xs.length css.flatten, pureR (CsOk k css xs), starR (rowsG El css xs)]
variable {fp : Nat → Prop} {w0 w w' : World} {rs : List Rs} {T i : Nat} {v : Value} {xs : List α} {x x' : α} {css : List (List Value)} {cs cs' : List Value}
theorem nestR.sl (hEl : ∀ {w g cs x}, (El cs x).P w g → R w cs x) {g : Nat → Prop} (h : (nestR T k El v xs).P w g) : SlR w k R v xs := by
  obtain ⟨css, ⟨f1, h1, _, f2, h2, _, f3, h3, _⟩, _⟩ := h
  exact h1.1.slD (rowsG_in hEl h2.1 h3.1) rfl
theorem St.nestSl (i : Nat) (h : St fp w0 w rs) (hi : rs[i]? = some (nestR T k El v xs)) (hEl : ∀ {w g cs x}, (El cs x).P w g → R w cs x) : SlR w k R v xs := by
  obtain ⟨g, h1⟩ := h.get i hi
  exact nestR.sl hEl h1
theorem St.nest (h : St fp w0 w (nestR T k El v xs :: rs)) : ∃ css, CsOk k css xs ∧ St fp w0 w (ownR T k v xs.length css.flatten :: starR (rowsG El css xs) :: rs) := by
  obtain ⟨css, h⟩ := h.ex
  obtain ⟨hc, h⟩ := (h.star.pick 1 rfl).pure
  exact ⟨css, hc, h⟩
theorem St.mkNest (hc : CsOk k css xs) (h : St fp w0 w (ownR T k v xs.length css.flatten :: starR (rowsG El css xs) :: rs)) : St fp w0 w (nestR T k El v xs :: rs) :=
  St.mkEx (f := fun css : List (List Value) => starR [ownR T k v xs.length css.flatten, pureR (CsOk k css xs), starR (rowsG El css xs)]) css (St.fold [_, _, _] ((h.mkPure hc).pick 1 rfl))
theorem St.nestNil (T k : Nat) (El : List Value → α → Rs) (h : St fp w0 w rs) : St fp w0 w (nestR T k El (.slice none 0 0) [] :: rs) :=
  St.mkNest (css := []) ⟨rfl, fun _ h => by simp at h⟩ ((St.fold (rs1 := []) (rs := rs) h).nilOwn T k)
theorem St.nestAt (h : St fp w0 w (nestR T k El v xs :: rs)) (hx : xs[i]? = some x) : ∃ css cs, CsOk k css xs ∧ css[i]? = some cs ∧ St fp w0 w (El cs x :: ownR T k v xs.length css.flatten :: starR ((rowsG El css xs).eraseIdx i) :: rs) := by
  obtain ⟨css, hc, h⟩ := h.nest
  obtain ⟨cs, h1, h2⟩ := rowsG_at (El := El) hc.1 hx
  have h3 := (h.pick 1 rfl).rowPick h2
  exact ⟨css, cs, hc, h1, h3.pick 2 rfl |>.pick 1 rfl⟩
theorem St.nestSet (hc : CsOk k css xs) (hi : i < xs.length) (hl : cs'.length = k) (h1 : ∀ u ∈ cs', u.oneCell' = true)
    (h : St fp w0 w (El cs' x' :: ownR T k v xs.length (css.set i cs').flatten :: starR ((rowsG El css xs).eraseIdx i) :: rs)) : St fp w0 w (nestR T k El v (xs.set i x') :: rs) := by
  have h2 := ((h.pick 2 rfl).pick 1 rfl).rowPut (by rw [rowsG_len hc.1]; exact hi)
  rw [← rowsG_set] at h2
  refine St.mkNest (css := css.set i cs') ⟨by simp [hc.1], fun c hm => ?_⟩ ?_
  · rcases List.mem_or_eq_of_mem_set hm with hm | rfl
    · exact hc.2 c hm
    · exact ⟨hl, h1⟩
  · rw [List.length_set]
    exact h2.pick 1 rfl
theorem St.nestSnoc (hc : CsOk k css xs) (hl : cs'.length = k) (h1 : ∀ u ∈ cs', u.oneCell' = true)
    (h : St fp w0 w (ownR T k v (xs.length + 1) (css ++ [cs']).flatten :: El cs' x' :: starR (rowsG El css xs) :: rs)) : St fp w0 w (nestR T k El v (xs ++ [x']) :: rs) := by
  have h2 := ((h.pick 2 rfl).pick 2 rfl).rowSnoc
  rw [← rowsG_app hc.1] at h2
  refine St.mkNest (css := css ++ [cs']) ⟨by simp [hc.1], fun c hm => ?_⟩ ?_
  · rcases List.mem_append.1 hm with hm | hm
    · exact hc.2 c hm
    · rw [List.mem_singleton.1 hm]; exact ⟨hl, h1⟩
  · rw [List.length_append, List.length_singleton]
    exact h2.pick 1 rfl
theorem St.rows0 {zc : List Value} {z0 : α} (hz : ∀ {rs}, St fp w0 w rs → St fp w0 w (El zc z0 :: rs)) (h : St fp w0 w rs) : ∀ n, St fp w0 w (starR (rowsG El (List.replicate n zc) (List.replicate n z0)) :: rs)
  | 0 => St.fold (rs1 := []) (rs := rs) h
  | n + 1 => (hz (St.rows0 hz h n)).rowCons
theorem St.mkNest0 {zc : List Value} {z0 : α} {n : Nat} (hk : zc.length = k) (h1 : ∀ u ∈ zc, u.oneCell' = true) (hz : ∀ {rs}, St fp w0 w rs → St fp w0 w (El zc z0 :: rs))
    (h : St fp w0 w (ownR T k v n (List.replicate n zc).flatten :: rs)) : St fp w0 w (nestR T k El v (List.replicate n z0) :: rs) := by
  refine St.mkNest (css := List.replicate n zc) ⟨by simp, fun c hc => by rw [List.eq_of_mem_replicate hc]; exact ⟨hk, h1⟩⟩ ?_
  have h2 := St.rows0 hz h n
  rw [List.length_replicate]
  exact h2.pick 1 rfl
end
section
variable {α : Type} {e : α → List Value} {E k T : Nat} {fp : Nat → Prop} {w0 w w' : World} {rs : List Rs} {v u u' : Value} {xss : List (List α)} {xs ys : List α} {css : List (List Value)} {i : Nat}
/-- An element that is a list of the call's own. -/
def rowR (E k : Nat) (e : α → List Value) (cs : List Value) (xs : List α) : Rs := exR fun u => starR [pureR (cs = [u]), ownR E k u xs.length (xs.flatMap e)]
theorem rowR_R (hl : ∀ x, True → (e x).length = k) {w : World} {g : Nat → Prop} {cs : List Value} {xs : List α} (h : (rowR E k e cs xs).P w g) : RSl k e w cs xs := by
  obtain ⟨u, ⟨f1, h1, _, f2, h2, _, _⟩, _⟩ := h
  exact ⟨u, h1.1, h2.1.slr rfl (fun x _ => hl x trivial)⟩
theorem St.row {cs : List Value} (h : St fp w0 w (rowR E k e cs xs :: rs)) : ∃ u, cs = [u] ∧ St fp w0 w (ownR E k u xs.length (xs.flatMap e) :: rs) := by
  obtain ⟨u, h⟩ := h.ex
  obtain ⟨h1, h⟩ := h.star.pure
  exact ⟨u, h1, h⟩
theorem St.mkRow (h : St fp w0 w (ownR E k u xs.length (xs.flatMap e) :: rs)) : St fp w0 w (rowR E k e [u] xs :: rs) :=
  St.mkEx (f := fun v => starR [pureR ([u] = [v]), ownR E k v xs.length (xs.flatMap e)]) u (St.fold [_, _] (h.mkPure rfl))
/-- The row whose head stands in the cell. -/
theorem St.rowAt {A : Option Addr} {ad : Addr} {n c : Nat} (h : St fp w0 w (nestR T 1 (rowR E k e) v xss :: rs)) (hx : xss[i]? = some xs) (hv : v = .slice A n c) (hA : A = some ad) (hc : w.cell? (ad.add (i * 1 + 0)) = some u) :
    ∃ css, CsOk 1 css xss ∧ St fp w0 w (ownR E k u xs.length (xs.flatMap e) :: ownR T 1 v xss.length css.flatten :: starR ((rowsG (rowR E k e) css xss).eraseIdx i) :: rs) := by
  obtain ⟨css, cs, hok, hcs, h⟩ := h.nestAt hx
  obtain ⟨u', hu', h2⟩ := h.row
  clear h
  subst hu'
  have hO := h2.own 1 rfl
  have hu : css.flatten[i * 1 + 0]? = some u' := flat_get (fun c hc => (hok.2 c hc).1) hcs rfl
  have e1 : w.cell? (ad.add (i * 1 + 0)) = some u' := by
    subst hv; subst hA
    rcases id hO with ⟨h0, _⟩ | ⟨b, cap, cs, h0, _⟩
    · cases h0
    · cases h0
      rw [plain_add]
      exact hO.cell hu
  rw [hc] at e1
  cases e1
  exact ⟨css, hok, h2⟩
theorem St.rowSet (hc : CsOk 1 css xss) (hi : i < xss.length) (h1 : u'.oneCell' = true)
    (h : St fp w0 w (ownR T 1 v xss.length (css.flatten.set i u') :: ownR E k u' ys.length (ys.flatMap e) :: starR ((rowsG (rowR E k e) css xss).eraseIdx i) :: rs)) : St fp w0 w (nestR T 1 (rowR E k e) v (xss.set i ys) :: rs) := by
  obtain ⟨cs, hcs⟩ : ∃ cs, css[i]? = some cs := ⟨css[i]'(by rw [hc.1]; exact hi), List.getElem?_eq_getElem _⟩
  have hl := (hc.2 cs (List.mem_of_getElem? hcs)).1
  have e1 := flat_setC (u := u') (fun c h => (hc.2 c h).1) hcs (show 0 < 1 by omega)
  have e2 : cs.set 0 u' = [u'] := by
    match cs, hl with
    | [x], _ => rfl
  rw [e2, Nat.mul_one, Nat.add_zero] at e1
  rw [← e1] at h
  exact St.nestSet hc hi rfl (by simpa using h1) ((h.pick 1 rfl).mkRow)
theorem St.row0 (h : St fp w0 w rs) : St fp w0 w (rowR E k e [.slice none 0 0] [] :: rs) := (h.nilOwn E k).mkRow
end
section
variable {P : Program} {ops : Array Oper} {Q : Exit → Act → World → Prop} {rest : List Oper} {a : Act} {n : Nat} {l : List (Nat × Option Value)} {w : World}
  {ty : TypeId} {pos : String} {af : Array Edge} {d : Nat} {v u : Value}
variable {E k c i : Nat} {A : Option Addr} {ad : Addr} {xs : List Value} {x y : Operand} {t m n0 : Nat}
theorem n_storeR (H : Has a n l) (ex : lo l x = some (.pointer (some (ad.add (i * 1))))) (ey : lo l y = some u) (hs : sizeB P t = some 1) (hO : Own w E 1 v m xs) (hv : v = .slice A n0 c) (hA : A = some ad) (hi : i < m) (h1 : u.oneCell' = true)
    (h : ∀ w', Own w' E 1 v m (xs.set i u) → Chg (blks v) w w' → ∀ a', Has a' n l → wpList P ops Q rest a' w') :
    wpList P ops Q (⟨none, .store t x y, ty, pos, af, none⟩ :: rest) a w := by
  rcases id hO with ⟨rfl, h0, _⟩ | ⟨b, cap, cs, rfl, hB, h2, h3, h4, h5, h6⟩
  · omega
  · cases hv; cases hA
    rw [plain_add, Nat.mul_one] at ex
    exact n_storeE1 H ex ey hs h1 hO (by omega) fun w' hO' hC a' H' => h w' hO' (by simpa [blks] using hC) a' H'
end
section
variable {P : Program} {ops : Array Oper} {Q : Exit → Act → World → Prop} {a : Act} {n : Nat} {l : List (Nat × Option Value)} {w : World} {k0 fuel h0 : Nat} {listed : Array Bool} {B : List Nat}
  {ty : TypeId} {pos : String} {af : Array Edge} {d : Nat} {v u : Value}
variable {E k c i : Nat} {A : Option Addr} {ad : Addr} {xs : List Value} {x y : Operand} {t m n0 : Nat}
theorem k_storeE1 (j : Nat) {b cap o : Nat} (H : Has a n l) (hi : ops[j]? = some ⟨none, .store t x y, ty, pos, af, none⟩) (ex : lo l x = some (.pointer (some ⟨b, o, none⟩))) (ey : lo l y = some u) (hs : sizeB P t = some 1) (h1 : u.oneCell' = true)
    (hO : Own w E k (.slice (some ⟨b, 0, none⟩) m cap) m xs) (ho : o < m * k) (hr : Region.ready .any ops listed = [j]) (hB : act k0 (listed.setIfInBounds j true) = false)
    (h : ∀ w', Own w' E k (.slice (some ⟨b, 0, none⟩) m cap) m (xs.set o u) → Chg [b] w w' → ∀ a', Has a' n l → wpK P ops Q k0 (ChgF B h0 w') fuel (listed.setIfInBounds j true) a' w') :
    wpK P ops Q k0 (ChgF B h0 w) (fuel + 1) listed a w := by
  obtain ⟨cs, hb, h2, h3, h4, h5, h6⟩ := hO.blk
  have hc : m * k ≤ cap * k := Nat.mul_le_mul_right k h2
  refine k_store1 j H hi ex ey hs hb (by omega) h1 hr (.inr hB) fun w' hB hC hz a' H' => h w' ?_ hC a' H'
  refine Own.ofBlk' hB h2 h3 (by simpa using h4) ?_ (by simpa using h5)
  rw [List.take_set, h6]
theorem k_storeR (j : Nat) (H : Has a n l) (hi : ops[j]? = some ⟨none, .store t x y, ty, pos, af, none⟩) (ex : lo l x = some (.pointer (some (ad.add (i * 1))))) (ey : lo l y = some u) (hs : sizeB P t = some 1) (hO : Own w E 1 v m xs) (hv : v = .slice A n0 c) (hA : A = some ad) (hm : i < m) (h1 : u.oneCell' = true)
    (hr : Region.ready .any ops listed = [j]) (hB : act k0 (listed.setIfInBounds j true) = false)
    (h : ∀ w', Own w' E 1 v m (xs.set i u) → Chg (blks v) w w' → ∀ a', Has a' n l → wpK P ops Q k0 (ChgF B h0 w') fuel (listed.setIfInBounds j true) a' w') :
    wpK P ops Q k0 (ChgF B h0 w) (fuel + 1) listed a w := by
  rcases id hO with ⟨rfl, h0, _⟩ | ⟨b, cap, cs, rfl, hB', h2, h3, h4, h5, h6⟩
  · omega
  · cases hv; cases hA
    rw [plain_add, Nat.mul_one] at ex
    exact k_storeE1 j H hi ex ey hs h1 hO (by omega) hr hB fun w' hO' hC a' H' => h w' hO' (by simpa [blks] using hC) a' H'
theorem k_app {α : Type} {e : α → List Value} {xs ys : List α} (j : Nat) {t' bytes : Nat} {z : List Value} {d' : TypeDesc} (H : Has a n l) (hi : ops[j]? = some ⟨some d, .call { callee := .builtin .append, args := #[x, y], argTypes := #[t, t'] }, ty, pos, af, none⟩) (ex : lo l x = some v) (ey : lo l y = some u)
    (ht : P.underlying t = some (.slice E)) (ht' : P.underlying t' = some d') (hd' : ∀ q, d' ≠ .int q) (hE : ElemOk P E k bytes z) (hv : Own w E k v xs.length (xs.flatMap e)) (hx : Src w k u ys.length (ys.flatMap e)) (h1 : ∀ z, ∀ c ∈ e z, c.oneCell' = true)
    (hb : (xs.length + ys.length) * bytes ≤ 140737488355328) (h63 : xs.length + ys.length ≤ maxLen) (hd : Nat.blt d n = true) (hr : Region.ready .any ops listed = [j]) (hB : (∀ b ∈ blks v, b < h0 → b ∈ B) ∨ act k0 (listed.setIfInBounds j true) = false)
    (h : ∀ v' w', Own w' E k v' (xs ++ ys).length ((xs ++ ys).flatMap e) → Chg (blks v) w w' → (blks v' = blks v ∨ ∃ b, blks v' = [b] ∧ w.heap.size ≤ b) → ∀ a', Has a' n ((d, some v') :: l) → wpK P ops Q k0 (ChgF B h0 w') fuel (listed.setIfInBounds j true) a' w') :
    wpK P ops Q k0 (ChgF B h0 w) (fuel + 1) listed a w :=
  k_append j H hi ex ey ht ht' hd' hE hv hx (flat_one h1 ys) hb h63 hd hr hB fun v' w' hO hC hb _ a' H' => h v' w' (by rw [List.length_append, List.flatMap_append]; exact hO) hC hb a' H'
end
/-! ### Regions that draw their order and write what is the call's own: all blocks below h0 but the old ones (below m) and ps -/
def kB (m : Nat) (ps : List Nat) (h0 : Nat) : List Nat := (List.range h0).filter fun k => decide (m ≤ k ∧ k ∉ ps)
theorem mem_kB {m h0 b : Nat} {ps : List Nat} (h1 : b < h0) (h2 : m ≤ b) (h3 : b ∉ ps) : b ∈ kB m ps h0 := by
  simp [kB, h1, h2, h3]
theorem kB_not {m h0 b : Nat} {ps : List Nat} (h : b ∈ ps) : b ∉ kB m ps h0 := by
  simp [kB, h]
theorem kB_old {m h0 : Nat} {ps : List Nat} : ∀ b ∈ kB m ps h0, m ≤ b := by
  intro b hb
  simp [kB] at hb
  exact hb.2.1
theorem notin_nil {b : Nat} : b ∉ ([] : List Nat) := by simp
theorem notin_cons {b c : Nat} {ps : List Nat} (h : b ≠ c) (h2 : b ∉ ps) : b ∉ c :: ps := by simp [h, h2]
theorem notin_app {b : Nat} {l ps : List Nat} (h : b ∉ l) (h2 : b ∉ ps) : b ∉ l ++ ps := by simp [h, h2]
section
variable {fp : Nat → Prop} {w0 w : World} {rs : List Rs} {i j b E k n E2 k2 n2 T : Nat} {v v2 : Value} {xs xs2 cs : List Value}
theorem St.geOwn (i : Nat) (h : St NB w0 w rs) (hi : rs[i]? = some (ownR E k v n xs)) : ∀ c ∈ blks v, w0.heap.size ≤ c := by
  obtain ⟨g, h1, h2⟩ := h.sep.get i hi
  exact fun c hc => (h2 c ((h1.2 c).2 hc)).elim False.elim id
theorem St.disjOwn (i j : Nat) (h : St fp w0 w rs) (hij : i ≠ j) (hi : rs[i]? = some (ownR E k v n xs)) (hj : rs[j]? = some (ownR E2 k2 v2 n2 xs2)) : ∀ c ∈ blks v, c ∉ blks v2 := by
  intro c hc e
  rcases Nat.lt_or_gt_of_ne hij with hl | hl
  · obtain ⟨f, g, h1, h2, h3⟩ := Sep.apart h.sep h.sep i j hl hi hj
    exact h3 c ((h1.2 c).2 hc) ((h2.2 c).2 e)
  · obtain ⟨f, g, h1, h2, h3⟩ := Sep.apart h.sep h.sep j i hl hj hi
    exact h3 c ((h1.2 c).2 e) ((h2.2 c).2 hc)
theorem St.neOwn' (i j : Nat) (h : St fp w0 w rs) (hij : i ≠ j) (hi : rs[i]? = some (ownR E k v n xs)) (hj : rs[j]? = some (blkR b cs T)) : ∀ c ∈ blks v, c ≠ b :=
  fun c hc e => h.neOwn (Ne.symm hij) hj hi (e ▸ hc)
theorem St.disjNest {α : Type} {El : List Value → α → Rs} {ys : List α} (i j : Nat) (h : St fp w0 w rs) (hij : i ≠ j) (hi : rs[i]? = some (ownR E k v n xs)) (hj : rs[j]? = some (nestR E2 k2 El v2 ys)) : ∀ c ∈ blks v, c ∉ blks v2 := by
  intro c hc e
  rcases Nat.lt_or_gt_of_ne hij with hl | hl
  · obtain ⟨f, g, h1, ⟨css, ⟨f2, h2, h2', _⟩, _⟩, h3⟩ := Sep.apart h.sep h.sep i j hl hi hj
    exact h3 c ((h1.2 c).2 hc) (h2' c ((h2.2 c).2 e))
  · obtain ⟨f, g, ⟨css, ⟨f2, h2, h2', _⟩, _⟩, h1, h3⟩ := Sep.apart h.sep h.sep j i hl hj hi
    exact h3 c (h2' c ((h2.2 c).2 e)) ((h1.2 c).2 hc)
theorem St.nestLt {α : Type} {El : List Value → α → Rs} {ys : List α} (i : Nat) (h : St fp w0 w rs) (hi : rs[i]? = some (nestR E k El v ys)) : ∀ c ∈ blks v, c < w.heap.size := by
  obtain ⟨g, css, ⟨f2, h2, h2', _⟩, h3⟩ := h.get i hi
  exact fun c hc => h3 c (h2' c ((h2.2 c).2 hc))
end
section
variable {P : Program} {t : TypeId} {w : World} {ad : Addr} {v : Value} {B : List Nat} {h0 o n c b : Nat} {A : Option Addr} {u : Value} {cs : List Value} {T : TypeId}
theorem LdC.cellB (ht : aggB P t = some false) (hc : w.cell? ad = some v) (hb : ad.block < h0) (hn : ad.block ∉ B) : LdC P t (ChgF B h0 w) ad v :=
  fun w' hw' => Ld.one ht ((by simp only [World.cell?, hw'.block _ (World.block_lt_of_cell? w ad hc) hb hn] : w'.cell? ad = w.cell? ad).trans hc)
theorem blk_of (hv : u = .slice A n c) (hA : A = some ad) : (ad.add o).block ∈ blks u := by
  subst hv; subst hA
  simp [blks, Addr.add]
  split <;> rfl
theorem Blk.ldPartB (h : Blk w b cs T) (o n : Nat) (hb : b < h0) (hn : b ∉ B) (ht : aggB P t = some true) (hs : sizeB P t = some n) (hl : o + n ≤ cs.length) : LdC P t (ChgF B h0 w) ⟨b, o, none⟩ (.agg ((cs.drop o).take n).toArray) :=
  fun w' hw' => (hw'.blk h hb hn).ldPart o n ht hs hl w' Ext.rfl'
end
section
variable {P : Program} {ops : Array Oper} {Q : Exit → Act → World → Prop} {rest : List Oper} {a : Act} {n : Nat} {l : List (Nat × Option Value)} {w : World}
  {ty : TypeId} {pos : String} {af : Array Edge} {d : Nat} {v u r : Value}
variable {α : Type} {e : α → List Value} {E E2 k2 bytes : Nat} {z : List Value} {xss : List (List α)} {ys : List α} {fp : Nat → Prop} {w0 : World} {rs : List Rs}
/-- append of a row of the call's own. -/
theorem n_appN {x y : Operand} {t t' : Nat} {d' : TypeDesc} (hS : St fp w0 w (nestR E 1 (rowR E2 k2 e) v xss :: ownR E2 k2 r ys.length (ys.flatMap e) :: rs)) (H : Has a n l) (ex : lo l x = some v) (ey : lo l y = some u)
    (ht : P.underlying t = some (.slice E)) (ht' : P.underlying t' = some d') (hd' : ∀ q, d' ≠ .int q) (hE : ElemOk P E 1 bytes z) (hx : Src w 1 u 1 [r]) (hr : r.oneCell' = true)
    (hb : (xss.length + 1) * bytes ≤ 140737488355328) (h63 : xss.length + 1 ≤ maxLen) (hd : Nat.blt d n = true)
    (h : ∀ v' w', St fp w0 w' (nestR E 1 (rowR E2 k2 e) v' (xss ++ [ys]) :: rs) → ∀ a', Has a' n ((d, some v') :: l) → wpList P ops Q rest a' w') :
    wpList P ops Q (⟨some d, .call { callee := .builtin .append, args := #[x, y], argTypes := #[t, t'] }, ty, pos, af, none⟩ :: rest) a w := by
  obtain ⟨css, hok, hS1⟩ := hS.nest
  refine n_append H ex ey ht ht' hd' hE (hS1.own 0 rfl) hx (by simpa using hr) hb h63 hd fun v' w' hO hC hbl _ a' H' => ?_
  have hS2 := hS1.setOwn hO hC hbl
  have hS3 := (St.pick 2 hS2 rfl)
  dsimp only [List.eraseIdx] at hS3
  have hS4 := (St.pick 1 hS3.mkRow rfl)
  dsimp only [List.eraseIdx] at hS4
  refine h v' w' (St.nestSnoc (cs' := [r]) hok rfl (by simpa using hr) ?_) a' H'
  rw [List.flatten_append]
  exact hS4
end
section
variable {P : Program} {ops : Array Oper} {Q : Exit → Act → World → Prop} {a : Act} {n : Nat} {l : List (Nat × Option Value)} {w : World} {k0 fuel h0 : Nat} {listed : Array Bool} {B : List Nat}
  {ty : TypeId} {pos : String} {af : Array Edge} {d : Nat} {v u : Value}
variable {α : Type} {R : World → List Value → α → Prop} {E k m bytes : Nat} {z : List Value} {xs ys : List α} {css : List (List Value)} {fp : Nat → Prop} {w0 : World} {rs : List Rs}
theorem k_appD {x y : Operand} {t t' : Nat} {d' : TypeDesc} (j : Nat) (hS : St fp w0 w (deepR E k R v xs :: anyR (DIn k R css ys) :: rs)) (H : Has a n l) (hi : ops[j]? = some ⟨some d, .call { callee := .builtin .append, args := #[x, y], argTypes := #[t, t'] }, ty, pos, af, none⟩) (ex : lo l x = some v) (ey : lo l y = some u)
    (ht : P.underlying t = some (.slice E)) (ht' : P.underlying t' = some d') (hd' : ∀ q, d' ≠ .int q) (hE : ElemOk P E k bytes z) (hx : Src w k u ys.length css.flatten)
    (hb : (xs.length + ys.length) * bytes ≤ 140737488355328) (h63 : xs.length + ys.length ≤ maxLen) (hd : Nat.blt d n = true) (hr : Region.ready .any ops listed = [j])
    (hB : ∀ css0, St fp w0 w (ownR E k v xs.length css0 :: anyR (DIn k R css ys) :: rs) → (∀ b ∈ blks v, b < h0 → b ∈ B) ∨ act k0 (listed.setIfInBounds j true) = false)
    (h : ∀ v' w', St fp w0 w' (deepR E k R v' (xs ++ ys) :: rs) → w.heap.size ≤ w'.heap.size → ∀ a', Has a' n ((d, some v') :: l) → wpK P ops Q k0 (ChgF B h0 w') fuel (listed.setIfInBounds j true) a' w') :
    wpK P ops Q k0 (ChgF B h0 w) (fuel + 1) listed a w := by
  obtain ⟨css0, hS1⟩ := hS.deep
  have hd2 : DIn k R css ys w := hS1.any 2 rfl
  refine k_append j H hi ex ey ht ht' hd' hE (hS1.own 0 rfl) hx hd2.one hb h63 hd hr (hB _ ((hS1.pick 1 rfl).tail)) fun v' w' hO hC hbl _ a' H' => ?_
  have hS2 := hS1.setOwn hO hC hbl
  have hS3 := (St.pick 1 hS2 rfl)
  dsimp only [List.eraseIdx] at hS3
  have hS4 := (St.pick 2 hS3 rfl)
  dsimp only [List.eraseIdx] at hS4
  have hS5 := hS4.anyAnd.anyMono (G := DIn k R (css0 ++ css) (xs ++ ys)) fun w'' hw => DIn.app hw.1 hw.2
  have hS6 := (St.pick 1 hS5 rfl)
  dsimp only [List.eraseIdx] at hS6
  refine h v' w' (St.mkDeep (css := css0 ++ css) ?_) hC.size a' H'
  rw [List.length_append, List.flatten_append]
  exact hS6
theorem k_four (i j m o : Nat) (hr : Region.ready .any ops listed = [i, j, m, o]) (h1 : wpKi P ops Q k0 (ChgF B h0 w) fuel listed i a w) (h2 : wpKi P ops Q k0 (ChgF B h0 w) fuel listed j a w) (h3 : wpKi P ops Q k0 (ChgF B h0 w) fuel listed m a w) (h4 : wpKi P ops Q k0 (ChgF B h0 w) fuel listed o a w) : wpK P ops Q k0 (ChgF B h0 w) (fuel + 1) listed a w := by
  refine ⟨fun h => (by rw [hr] at h; cases h), fun q hq => ?_⟩
  rw [hr] at hq
  simp only [List.mem_cons, List.not_mem_nil, or_false] at hq
  rcases hq with rfl | rfl | rfl | rfl
  · exact h1
  · exact h2
  · exact h3
  · exact h4
theorem k_of_kk (i : Nat) (hr : Region.ready .any ops listed = [i]) (h : wpKi P ops Q k0 (ChgF B h0 w) fuel listed i a w) : wpK P ops Q k0 (ChgF B h0 w) (fuel + 1) listed a w := by
  refine ⟨fun h => (by rw [hr] at h; cases h), fun q hq => ?_⟩
  rw [hr] at hq
  have := List.mem_singleton.1 hq
  subst this
  exact h
theorem kk_callv (i : Nat) {f : FuncId} {x : Operand} {xs : List Operand} {tys : Array TypeId} {vs first cap : List Value} {Φ : Value → World → Prop} (H : Has a n l)
    (hi : ops[i]? = some ⟨some d, .call { callee := .value x, args := xs.toArray, argTypes := tys }, ty, pos, af, none⟩) (ex : lo l x = some (.func (.func f) first.toArray cap.toArray)) (e : loAll l xs = some vs) (hf : entersB P f = true)
    (hc : Calls P f (first ++ vs ++ cap).toArray w (Ret Φ)) (hd : Nat.blt d n = true) (hΦ : ∀ v w', Φ v w' → Go' B k0 h0 (listed.setIfInBounds i true) w w')
    (h : ∀ v w', Φ v w' → ∀ a', Has a' n ((d, some v) :: l) → wpK P ops Q k0 (ChgF B h0 w') fuel (listed.setIfInBounds i true) a' w') : wpKi P ops Q k0 (ChgF B h0 w) fuel listed i a w := by
  refine kk_one i hi rfl ?_
  refine wp_call (f := f) (args := (first ++ vs ++ cap).toArray) (by
    have := loAll_map H.eval xs vs e
    simp [execOp, resolve, H.eval x _ ex, Deferred.ofValue, invoke, run_callFunc_enters hf, this]) hc fun v w' hv => ?_
  exact ⟨hΦ v w' hv, h v w' hv _ (H.put d v hd)⟩
theorem kk_makeL {β : Type} {e : β → List Value} {z0 : β} (i : Nat) {x y : Operand} {T : Nat} {q1 q2 : IntKind} {L C : Nat} (H : Has a n l) (hi : ops[i]? = some ⟨some d, .makeSlice T x y, ty, pos, af, none⟩) (ht : P.underlying T = some (.slice E)) (hE : ElemOk P E k bytes z) (hz : e z0 = z) (ex : lo l x = some (.int q1 L)) (ey : lo l y = some (.int q2 C)) (hLC : L ≤ C)
    (hb : C * bytes ≤ 140737488355328) (hm : C ≤ maxLen) (hd : Nat.blt d n = true)
    (h : ∀ b w', Own w' E k (.slice (some ⟨b, 0, none⟩) L C) (List.replicate L z0).length ((List.replicate L z0).flatMap e) → Ext w w' → w.heap.size = b → ∀ a', Has a' n ((d, some (.slice (some ⟨b, 0, none⟩) L C)) :: l) → wpK P ops Q k0 (ChgF B h0 w') fuel (listed.setIfInBounds i true) a' w') :
    wpKi P ops Q k0 (ChgF B h0 w) fuel listed i a w :=
  kk_make i H hi ht hE ex ey hLC hb hm hd fun b w' hO he hs a' H' => h b w' (by rw [List.length_replicate, List.flatMap, List.map_replicate, hz]; exact hO) he hs a' H'
theorem kk_app {β : Type} {e : β → List Value} {xs ys : List β} (j : Nat) {x y : Operand} {t t' bytes : Nat} {z : List Value} {d' : TypeDesc} (H : Has a n l) (hi : ops[j]? = some ⟨some d, .call { callee := .builtin .append, args := #[x, y], argTypes := #[t, t'] }, ty, pos, af, none⟩) (ex : lo l x = some v) (ey : lo l y = some u)
    (ht : P.underlying t = some (.slice E)) (ht' : P.underlying t' = some d') (hd' : ∀ q, d' ≠ .int q) (hE : ElemOk P E k bytes z) (hv : Own w E k v xs.length (xs.flatMap e)) (hx : Src w k u ys.length (ys.flatMap e)) (h1 : ∀ z, ∀ c ∈ e z, c.oneCell' = true)
    (hb : (xs.length + ys.length) * bytes ≤ 140737488355328) (h63 : xs.length + ys.length ≤ maxLen) (hd : Nat.blt d n = true) (hB : (∀ b ∈ blks v, b < h0 → b ∈ B) ∨ act k0 (listed.setIfInBounds j true) = false)
    (h : ∀ v' w', Own w' E k v' (xs ++ ys).length ((xs ++ ys).flatMap e) → Chg (blks v) w w' → (blks v' = blks v ∨ ∃ b, blks v' = [b] ∧ w.heap.size ≤ b) → ∀ a', Has a' n ((d, some v') :: l) → wpK P ops Q k0 (ChgF B h0 w') fuel (listed.setIfInBounds j true) a' w') :
    wpKi P ops Q k0 (ChgF B h0 w) fuel listed j a w :=
  kk_append j H hi ex ey ht ht' hd' hE hv hx (flat_one h1 ys) hb h63 hd hB fun v' w' hO hC hb _ a' H' => h v' w' (by rw [List.length_append, List.flatMap_append]; exact hO) hC hb a' H'
end
section
variable {α : Type} {R : World → List Value → α → Prop} {fp : Nat → Prop} {w0 w : World} {rs : List Rs} {E k n : Nat} {v : Value}
theorem St.mkDeep0 {zc : List Value} {z0 : α} (hk : zc.length = k) (h1 : ∀ u ∈ zc, u.oneCell' = true) (hz : ∀ w, R w zc z0) (h : St fp w0 w (ownR E k v n (List.replicate n zc).flatten :: rs)) : St fp w0 w (deepR E k R v (List.replicate n z0) :: rs) := by
  refine St.mkDeep (css := List.replicate n zc) ?_
  rw [List.length_replicate]
  exact (h.trivAny (F := DIn k R (List.replicate n zc) (List.replicate n z0)) (make_deep hk h1 hz n)).pick 1 rfl
theorem St.pureAt (i : Nat) {p : Prop} (h : St fp w0 w rs) (hi : rs[i]? = some (pureR p)) : p := by
  obtain ⟨g, h1⟩ := h.get i hi
  exact h1.1
end
end Go.Proofs.YtnhjohcgnmogaaaDoor
