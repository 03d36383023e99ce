/- Lists whose elements hold lists: what they read as, and lists of the call's own. No program is named here. -/
import Derived.Test.YtnhjohcgnmogaaaDoorArr
set_option linter.unusedVariables false
set_option linter.unusedSimpArgs false
set_option linter.unusedSectionVars false
namespace Go.Proofs.YtnhjohcgnmogaaaDoor
open Go Go.RowKit

theorem List.take_set_of_le_aux {β : Type} (c : β) (ys : List β) (i : Nat) (h : i < ys.length) : (ys.set i c).take (i + 1) = ys.take i ++ [c] := by
  rw [List.take_set, List.take_add_one, List.getElem?_eq_getElem h]
  simp only [Option.toList_some]
  rw [List.set_append_right _ _ (by simp; omega)]
  simp [Nat.min_eq_left (Nat.le_of_lt h)]
section
variable {α : Type} {R : World → List Value → α → Prop} {k : Nat}
/-- An element that is a list of flat elements. -/
def RSl (k : Nat) (e : α → List Value) (w : World) (cs : List Value) (xs : List α) : Prop := ∃ v, cs = [v] ∧ SlR w k (Flat e) v xs
theorem RSl.mono (k : Nat) (e : α → List Value) : Mono (RSl k e) := by
  intro w w' cs x ag h
  obtain ⟨v, rfl, h⟩ := h
  exact ⟨v, rfl, h.agr (Flat.mono _) ag⟩
/-- Elements' cells, and what they read as. -/
def DIn (k : Nat) (R : World → List Value → α → Prop) : List (List Value) → List α → World → Prop
  | [], [], _ => True
  | cs :: css, x :: xs, w => (cs.length = k ∧ (∀ u ∈ cs, u.oneCell' = true) ∧ R w cs x) ∧ DIn k R css xs w
  | _, _, _ => False
theorem DIn.len {w : World} : ∀ {css : List (List Value)} {xs : List α}, DIn k R css xs w → css.length = xs.length
  | [], [], _ => rfl
  | cs :: css, x :: xs, ⟨_, h⟩ => by simp [h.len]
  | [], x :: xs, h => h.elim
  | cs :: css, [], h => h.elim
theorem DIn.flen {w : World} : ∀ {css : List (List Value)} {xs : List α}, DIn k R css xs w → css.flatten.length = xs.length * k
  | [], [], _ => by simp
  | cs :: css, x :: xs, ⟨h1, h⟩ => by
    have := h.flen
    simp only [List.flatten_cons, List.length_append, List.length_cons, h1.1, this, Nat.succ_mul]
    omega
  | [], x :: xs, h => h.elim
  | cs :: css, [], h => h.elim
theorem DIn.one {w : World} : ∀ {css : List (List Value)} {xs : List α}, DIn k R css xs w → ∀ u ∈ css.flatten, u.oneCell' = true
  | [], [], _, u, hu => by simp at hu
  | cs :: css, x :: xs, ⟨h1, h⟩, u, hu => by
    rw [List.flatten_cons, List.mem_append] at hu
    exact hu.elim (h1.2.1 u) (h.one u)
  | [], x :: xs, h, _, _ => h.elim
  | cs :: css, [], h, _, _ => h.elim
theorem DIn.at {w : World} : ∀ {css : List (List Value)} {xs : List α} {i : Nat} {x : α}, DIn k R css xs w → xs[i]? = some x → ∃ cs, cs.length = k ∧ R w cs x ∧ ∀ j u, cs[j]? = some u → css.flatten[i * k + j]? = some u
  | [], [], i, x, _, hx => by simp at hx
  | cs :: css, y :: xs, 0, x, ⟨h1, h⟩, hx => by
    simp only [List.getElem?_cons_zero, Option.some.injEq] at hx
    subst hx
    refine ⟨cs, h1.1, h1.2.2, fun j u hu => ?_⟩
    rw [List.flatten_cons, List.getElem?_append_left (by have := (List.getElem?_eq_some_iff.1 hu).1; omega)]
    simpa using hu
  | cs :: css, y :: xs, i + 1, x, ⟨h1, h⟩, hx => by
    obtain ⟨cs', g1, g2, g3⟩ := h.at (i := i) (by simpa using hx)
    refine ⟨cs', g1, g2, fun j u hu => ?_⟩
    rw [List.flatten_cons, List.getElem?_append_right (by rw [h1.1, Nat.succ_mul]; omega), h1.1]
    have e : (i + 1) * k + j - k = i * k + j := by rw [Nat.succ_mul]; omega
    rw [e]
    exact g3 j u hu
  | [], x :: xs, _, _, h, _ => h.elim
  | cs :: css, [], _, _, h, _ => h.elim
theorem DIn.snoc {w : World} {cs : List Value} {x : α} (h1 : cs.length = k) (h2 : ∀ u ∈ cs, u.oneCell' = true) (h3 : R w cs x) : ∀ {css : List (List Value)} {xs : List α}, DIn k R css xs w → DIn k R (css ++ [cs]) (xs ++ [x]) w
  | [], [], _ => ⟨⟨h1, h2, h3⟩, trivial⟩
  | c :: css, y :: xs, ⟨g, h⟩ => ⟨g, DIn.snoc h1 h2 h3 h⟩
  | [], x :: xs, h => h.elim
  | cs :: css, [], h => h.elim
theorem DIn.app {w : World} {css' : List (List Value)} {xs' : List α} (h' : DIn k R css' xs' w) : ∀ {css : List (List Value)} {xs : List α}, DIn k R css xs w → DIn k R (css ++ css') (xs ++ xs') w
  | [], [], _ => h'
  | c :: css, y :: xs, ⟨g, h⟩ => ⟨g, DIn.app h' h⟩
  | [], x :: xs, h => h.elim
  | cs :: css, [], h => h.elim
theorem DIn.cons {w : World} {cs : List Value} {x : α} {css : List (List Value)} {xs : List α} (h1 : cs.length = k) (h2 : ∀ u ∈ cs, u.oneCell' = true) (h3 : R w cs x) (h : DIn k R css xs w) : DIn k R (cs :: css) (x :: xs) w := ⟨⟨h1, h2, h3⟩, h⟩
theorem DIn.mono (hR : Mono R) {w w' : World} (e : Agr w w') : ∀ {css : List (List Value)} {xs : List α}, DIn k R css xs w → DIn k R css xs w'
  | [], [], _ => trivial
  | c :: css, y :: xs, ⟨g, h⟩ => ⟨⟨g.1, g.2.1, hR _ _ _ _ e g.2.2⟩, h.mono hR e⟩
  | [], x :: xs, h => h.elim
  | cs :: css, [], h => h.elim
theorem SlR.ofCells {w : World} {b cap n : Nat} {css : List (List Value)} {xs : List α} (hc : ∀ j u, css.flatten[j]? = some u → w.cell? ⟨b, j, none⟩ = some u) (hd : DIn k R css xs w) (hn : n = xs.length) (hcap : n ≤ cap) (hm : cap ≤ maxLen) : SlR w k R (.slice (some ⟨b, 0, none⟩) n cap) xs := by
  subst hn
  refine ⟨some ⟨b, 0, none⟩, cap, rfl, hcap, hm, (fun h => by cases h), fun ad h i x hx => ?_⟩
  cases h
  obtain ⟨cs, h1, h2, h3⟩ := hd.at hx
  exact ⟨cs, h1, h2, fun j u hu => by rw [plain_add]; exact hc _ u (h3 j u hu)⟩
/-- A literal's row. -/
theorem SlR.ofBlk {w : World} {b n T : Nat} (css : List (List Value)) (xs : List α) (h : Blk w b css.flatten T) (hd : DIn k R css xs w) (hn : n = xs.length) (hm : n ≤ maxLen) : SlR w k R (.slice (some ⟨b, 0, none⟩) n n) xs :=
  SlR.ofCells (fun j u hu => (h.cell j).trans hu) hd hn (Nat.le_refl _) hm
theorem Own.slD {w : World} {E n : Nat} {v : Value} {css : List (List Value)} {xs : List α} (h : Own w E k v n css.flatten) (hd : DIn k R css xs w) (hn : n = xs.length) : SlR w k R v xs := by
  rcases id h with ⟨rfl, h0, h1⟩ | ⟨b, cap, cs, rfl, hB, h2, h3, h4, h5, h6⟩
  · cases xs with
    | nil => exact SlR.nil w k R
    | cons x xs => simp at hn; omega
  · exact SlR.ofCells (fun j u hu => h.cell hu) hd hn h2 h3
theorem ldElH {P : Program} {w : World} {T i : Nat} {ad : Addr} {v : Value} (ht : aggB P T = some false) (hc : ∀ j u, [v][j]? = some u → w.cell? (ad.add (i * 1 + j)) = some u) : LdX P T w (ad.add (i * 1)) v := LdX.one ht (hc 0 v rfl)
theorem fillA {place : Nat → Option (Nat × Nat)} {i off : Nat} {v : Value} {zs ds : List Value} {n : Nat} {rest : List (Nat × Value)} (h : v.cells = ds.toArray) (hn : ds.length = n) (hp : place i = some (off, n)) (hl : off + n ≤ zs.length) :
    Instr.fill place zs.toArray ((i, v) :: rest) = Instr.fill place (zs.take off ++ ds ++ zs.drop (off + n)).toArray rest := by
  subst hn
  rw [Instr.fill, hp]
  simp only [h]
  have h1 : ¬ (ds.toArray.size ≠ ds.length || decide (off + ds.toArray.size > zs.toArray.size)) = true := by simp; omega
  rw [if_neg h1]
  congr 1
  have key : ∀ (es : List Value) (j : Nat) (ys : List Value), off + j + es.length ≤ ys.length → (es.zipIdx j).foldl (fun cs (c, j) => cs.setIfInBounds (off + j) c) ys.toArray = (ys.take (off + j) ++ es ++ ys.drop (off + j + es.length)).toArray := by
    intro es
    induction es with
    | nil => intro j ys _; simp
    | cons c es ih =>
      intro j ys hj
      simp only [List.zipIdx_cons, List.foldl_cons, List.setIfInBounds_toArray]
      rw [ih (j + 1) _ (by simp at hj ⊢; omega)]
      simp only [List.length_cons] at hj
      congr 1
      have e1 : off + (j + 1) = off + j + 1 := by omega
      rw [e1, List.take_set_of_le_aux c ys (off + j) (by omega)]
      rw [List.drop_set_of_lt (by omega)]
      simp only [List.append_assoc, List.cons_append, List.nil_append, List.length_cons]
      have e2 : off + j + 1 + es.length = off + j + (es.length + 1) := by omega
      rw [e2]
  have := key ds 0 zs (by simpa using hl)
  simpa using this
/-- A list of the call's own, of elements that are only read. -/
def deepR (E k : Nat) (R : World → List Value → α → Prop) (v : Value) (xs : List α) : Rs := exR fun css : List (List Value) => starR [ownR E k v xs.length css.flatten, anyR (DIn k R css xs)]
theorem Src.blk {w : World} {b m c T : Nat} {cs : List Value} (h : Blk w b cs T) (hl : cs.length = m * k) : Src w k (.slice (some ⟨b, 0, none⟩) m c) m cs := .inr (.inl ⟨_, _, rfl, hl, fun j u hu => by rw [plain_add]; exact (h.cell j).trans hu⟩)
theorem SlR.srcD {w : World} {v : Value} {xs : List α} (h : SlR w k R v xs) : ∃ css : List (List Value), Src w k v xs.length css.flatten ∧ css.length = xs.length ∧ ∀ (i : Nat) (cs : List Value) (x : α), css[i]? = some cs → xs[i]? = some x → cs.length = k ∧ R w cs x := by
  obtain ⟨A, c, rfl, h1, h2, h3, h4⟩ := h
  cases A with
  | none =>
    obtain ⟨rfl, rfl⟩ := h3 rfl
    exact ⟨[], .inl ⟨0, rfl, rfl, rfl⟩, rfl, fun i cs x hc _ => by simp at hc⟩
  | some ad =>
    have key : ∀ (ys : List α) (o : Nat), (∀ i x, ys[i]? = some x → xs[o + i]? = some x) → ∃ css : List (List Value), css.length = ys.length ∧ css.flatten.length = ys.length * k ∧ (∀ j u, css.flatten[j]? = some u → w.cell? (ad.add (o * k + j)) = some u) ∧ ∀ (i : Nat) (cs : List Value) (x : α), css[i]? = some cs → ys[i]? = some x → cs.length = k ∧ R w cs x := by
      intro ys
      induction ys with
      | nil => intro o _; exact ⟨[], rfl, by simp, (fun j u hu => by simp at hu), fun i cs x hc _ => by simp at hc⟩
      | cons y ys ih =>
        intro o ho
        obtain ⟨cs, g1, g2, g3⟩ := h4 ad rfl o y (ho 0 y rfl)
        obtain ⟨css, k1, k2, k3, k4⟩ := ih (o + 1) (fun i x hx => by have := ho (i + 1) x (by simpa using hx); rw [Nat.add_assoc, Nat.add_comm 1 i]; exact this)
        refine ⟨cs :: css, by simp [k1], by simp only [List.flatten_cons, List.length_append, List.length_cons, g1, k2, Nat.succ_mul]; omega, fun j u hu => ?_, fun i cs' x hc hx => ?_⟩
        · rw [List.flatten_cons] at hu
          by_cases hj : j < cs.length
          · rw [List.getElem?_append_left hj] at hu; exact g3 j u hu
          · rw [List.getElem?_append_right (by omega)] at hu
            have := k3 _ u hu
            rw [g1] at this
            have e : (o + 1) * k + (j - k) = o * k + j := by rw [Nat.succ_mul]; omega
            rwa [e] at this
        · cases i with
          | zero => simp at hc hx; subst hc; subst hx; exact ⟨g1, g2⟩
          | succ i => exact k4 i cs' x (by simpa using hc) (by simpa using hx)
    obtain ⟨css, k1, k2, k3, k4⟩ := key xs 0 (fun i x hx => by simpa using hx)
    exact ⟨css, .inr (.inl ⟨ad, c, rfl, k2, fun j u hu => by have := k3 j u hu; simpa using this⟩), k1, k4⟩
end
section
variable {α : Type} {R : World → List Value → α → Prop} {E k n : Nat} {v : Value} {xs : List α} {x : α} {fp : Nat → Prop} {w0 w w' : World} {rs : List Rs}
theorem deepR.sl {g : Nat → Prop} (h : (deepR E k R v xs).P w g) : SlR w k R v xs := by
  obtain ⟨css, ⟨f1, h1, h2, f2, h3, h4, _⟩, _⟩ := h
  exact h1.1.slD h3.now rfl
theorem St.deepSl (i : Nat) (h : St fp w0 w rs) (hi : rs[i]? = some (deepR E k R v xs)) : SlR w k R v xs := by
  obtain ⟨g, h1⟩ := h.get i hi
  exact deepR.sl h1
theorem St.deep (h : St fp w0 w (deepR E k R v xs :: rs)) : ∃ css, St fp w0 w (ownR E k v xs.length css.flatten :: anyR (DIn k R css xs) :: rs) := by
  obtain ⟨css, h⟩ := h.ex
  exact ⟨css, h.star⟩
theorem St.mkDeep {css : List (List Value)} (h : St fp w0 w (ownR E k v xs.length css.flatten :: anyR (DIn k R css xs) :: rs)) : St fp w0 w (deepR E k R v xs :: rs) :=
  St.mkEx (f := fun css : List (List Value) => starR [ownR E k v xs.length css.flatten, anyR (DIn k R css xs)]) css (h.fold [_, _])
theorem St.deepNil (E k : Nat) (R : World → List Value → α → Prop) (h : St fp w0 w rs) : St fp w0 w (deepR E k R (.slice none 0 0) [] :: rs) :=
  St.mkDeep (css := []) ((h.trivAny (F := DIn k R [] []) fun _ => trivial).nilOwn E k)
/-- It is only read from now on. -/
theorem St.deepAny (h : St fp w0 w (deepR E k R v xs :: rs)) : St fp w0 w (anyR (fun w' => SlR w' k R v xs) :: rs) := by
  obtain ⟨css, h⟩ := h.deep
  have h2 := (h.ownAny (F := fun w' => Own w' E k v xs.length css.flatten) fun w' hO => hO).anyAnd
  exact h2.anyMono fun w' hw => hw.1.slD hw.2 rfl
/-- A literal's row becomes such a list. -/
theorem St.litDeep {b T : Nat} (css : List (List Value)) (xs : List α) (h : St fp w0 w (blkR b css.flatten T :: anyR (DIn k R css xs) :: rs)) (hn : n = xs.length) (hm : xs.length ≤ maxLen) (hl : css.flatten.length = xs.length * k) : St fp w0 w (deepR T k R (.slice (some ⟨b, 0, none⟩) n n) xs :: rs) := by
  subst hn
  exact St.mkDeep (h.blkOwn xs.length k hl hm)
theorem make_deep {z0 : α} {zc : List Value} (hk : zc.length = k) (h1 : ∀ u ∈ zc, u.oneCell' = true) (hz : ∀ w, R w zc z0) : ∀ (n : Nat) (w : World), DIn k R (List.replicate n zc) (List.replicate n z0) w
  | 0, _ => trivial
  | n + 1, w => ⟨⟨hk, h1, hz w⟩, make_deep hk h1 hz n w⟩
end
section
variable {P : Program} {ops : Array Oper} {Q : Exit → Act → World → Prop} {rest : List Oper} {a : Act} {n : Nat} {l : List (Nat × Option Value)} {w : World}
  {ty : TypeId} {pos : String} {af : Array Edge} {d : Nat} {v u : Value}
variable {α : Type} {R : World → List Value → α → Prop} {E k m bytes : Nat} {z : List Value} {xs ys : List α} {css : List (List Value)} {fp : Nat → Prop} {w0 : World} {rs : List Rs}
/-- append of elements with lists in them. -/
theorem n_appD {x y : Operand} {t t' : Nat} {d' : TypeDesc} (hS : St fp w0 w (deepR E k R v xs :: anyR (DIn k R css ys) :: rs)) (H : Has a n l) (ex : lo l x = some v) (ey : lo l y = some u)
    (ht : P.underlying t = some (.slice E)) (ht' : P.underlying t' = some d') (hd' : ∀ q, d' ≠ .int q) (hE : ElemOk P E k bytes z) (hx : Src w k u ys.length css.flatten)
    (hb : (xs.length + ys.length) * bytes ≤ 140737488355328) (h63 : xs.length + ys.length ≤ maxLen) (hd : Nat.blt d n = true)
    (h : ∀ v' w', St fp w0 w' (deepR E k R v' (xs ++ ys) :: rs) → ∀ a', Has a' n ((d, some v') :: l) → wpList P ops Q rest a' w') :
    wpList P ops Q (⟨some d, .call { callee := .builtin .append, args := #[x, y], argTypes := #[t, t'] }, ty, pos, af, none⟩ :: rest) a w := by
  obtain ⟨css0, hS1⟩ := hS.deep
  have hd2 : DIn k R css ys w := hS1.any 2 rfl
  refine n_append H ex ey ht ht' hd' hE (hS1.own 0 rfl) hx hd2.one hb h63 hd fun v' w' hO hC hbl _ a' H' => ?_
  have hS2 := hS1.setOwn hO hC hbl
  have hS3 := (St.pick 1 hS2 rfl)
  dsimp only [List.eraseIdx] at hS3
  have hS4 := (St.pick 2 hS3 rfl)
  dsimp only [List.eraseIdx] at hS4
  have hS5 := hS4.anyAnd.anyMono (G := DIn k R (css0 ++ css) (xs ++ ys)) fun w'' hw => DIn.app hw.1 hw.2
  have hS6 := (St.pick 1 hS5 rfl)
  dsimp only [List.eraseIdx] at hS6
  refine h v' w' (St.mkDeep (css := css0 ++ css) ?_) a' H'
  rw [List.length_append, List.flatten_append]
  exact hS6
end
end Go.Proofs.YtnhjohcgnmogaaaDoor
