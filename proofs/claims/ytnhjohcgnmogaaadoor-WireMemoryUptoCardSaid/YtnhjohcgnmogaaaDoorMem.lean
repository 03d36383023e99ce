/- Slices: what a slice value reads as, slices of the call's own, append, make, literals, copies. No program is named here. -/
import Derived.Test.YtnhjohcgnmogaaaDoorOps
import Derived.Laws.IdiomStrings
set_option linter.unusedVariables false
set_option linter.unusedSimpArgs false
set_option linter.unusedSectionVars false
namespace Go.Proofs.YtnhjohcgnmogaaaDoor
open Go Go.RowKit

/-! ### 1. Reading -/
/-- The slice value v reads as xs: each element's k cells meet R. -/
def SlR {α : Type} (w : World) (k : Nat) (R : World → List Value → α → Prop) (v : Value) (xs : List α) : Prop :=
  ∃ A c, v = .slice A xs.length c ∧ xs.length ≤ c ∧ c ≤ maxLen ∧ (A = none → xs = [] ∧ c = 0) ∧ ∀ ad, A = some ad → ∀ i x, xs[i]? = some x → ∃ cs : List Value, cs.length = k ∧ R w cs x ∧ ∀ j u, cs[j]? = some u → w.cell? (ad.add (i * k + j)) = some u

def Mono {α : Type} (R : World → List Value → α → Prop) : Prop := ∀ w w' cs x, Agr w w' → R w cs x → R w' cs x
/-- Elements that are cells and nothing behind them. -/
def Flat {α : Type} (enc : α → List Value) : World → List Value → α → Prop := fun _ cs x => cs = enc x
theorem Flat.mono {α : Type} (enc : α → List Value) : Mono (Flat enc) := fun _ _ _ _ _ h => h

theorem SlR.agr {α : Type} {w w' : World} {k : Nat} {R : World → List Value → α → Prop} {v : Value} {xs : List α} (hR : Mono R) (h : SlR w k R v xs) (e : Agr w w') : SlR w' k R v xs := by
  obtain ⟨A, c, h1, h2, h3, h4, h5⟩ := h
  refine ⟨A, c, h1, h2, h3, h4, fun ad ha i x hx => ?_⟩
  obtain ⟨cs, g1, g2, g3⟩ := h5 ad ha i x hx
  exact ⟨cs, g1, hR _ _ _ _ e g2, fun j u hu => cell_agr (g3 j u hu) e⟩
theorem SlR.ext {α : Type} {w w' : World} {k : Nat} {R : World → List Value → α → Prop} {v : Value} {xs : List α} (hR : Mono R) (h : SlR w k R v xs) (e : Ext w w') : SlR w' k R v xs := h.agr hR e.agr

/-- What the walk wants of a slice: its value's form, and its elements. -/
theorem SlR.form {α : Type} {w : World} {k : Nat} {R : World → List Value → α → Prop} {v : Value} {xs : List α} (h : SlR w k R v xs) :
    ∃ A c, v = .slice A xs.length c ∧ xs.length ≤ c ∧ c ≤ 9223372036854775807 ∧ (A = none → xs = [] ∧ c = 0) := by
  obtain ⟨A, c, h1, h2, h3, h4, _⟩ := h
  exact ⟨A, c, h1, h2, by simpa [maxLen] using h3, h4⟩
theorem SlR.el {α : Type} {w : World} {k : Nat} {R : World → List Value → α → Prop} {ad : Addr} {n c : Nat} {xs : List α} (h : SlR w k R (.slice (some ad) n c) xs) {i : Nat} {x : α} (hx : xs[i]? = some x) :
    ∃ cs : List Value, cs.length = k ∧ R w cs x ∧ ∀ j u, cs[j]? = some u → w.cell? (ad.add (i * k + j)) = some u := by
  obtain ⟨A, c', h1, h2, h3, h4, h5⟩ := h
  cases h1
  exact h5 ad rfl i x hx

section
variable {P : Program} {w : World}
/-- The element as a whole, of several cells. -/
theorem SlR.ldAgg {α : Type} {enc : α → List Value} {k : Nat} {ad : Addr} {n c : Nat} {xs : List α} {T : TypeId} (h : SlR w k (Flat enc) (.slice (some ad) n c) xs) (ht : aggB P T = some true) (hs : sizeB P T = some k) {i : Nat} {x : α} (hx : xs[i]? = some x) :
    LdX P T w (ad.add (i * k)) (.agg (enc x).toArray) := by
  obtain ⟨cs, h1, h2, h3⟩ := h.el hx
  have h2' : cs = enc x := h2
  subst h2'
  exact LdX.agg ht (by rw [hs, h1]) fun j u hu => by rw [add_add]; exact h3 j u hu
/-- The element, of one cell. -/
theorem SlR.ldOne {α : Type} {enc : α → List Value} {ad : Addr} {n c : Nat} {xs : List α} {T : TypeId} {u : Value} (h : SlR w 1 (Flat enc) (.slice (some ad) n c) xs) (ht : aggB P T = some false) {i : Nat} {x : α} (hx : xs[i]? = some x) (he : enc x = [u]) :
    LdX P T w (ad.add (i * 1)) u := by
  obtain ⟨cs, h1, h2, h3⟩ := h.el hx
  have h2' : cs = enc x := h2
  subst h2'
  exact LdX.one ht (by have := h3 0 u (by rw [he]; rfl); simpa using this)
/-- A cell of an element. -/
theorem SlR.ldCell {α : Type} {enc : α → List Value} {k : Nat} {ad : Addr} {n c : Nat} {xs : List α} {T : TypeId} {u : Value} (h : SlR w k (Flat enc) (.slice (some ad) n c) xs) (ht : aggB P T = some false) {i j : Nat} {x : α} (hx : xs[i]? = some x) (he : (enc x)[j]? = some u) :
    LdX P T w ((ad.add (i * k)).add j) u := by
  obtain ⟨cs, h1, h2, h3⟩ := h.el hx
  have h2' : cs = enc x := h2
  subst h2'
  exact LdX.one ht (by rw [add_add]; exact h3 j u he)

/-! ### 2. A slice of the call's own -/
def Own (w : World) (E k : Nat) (v : Value) (n : Nat) (xs : List Value) : Prop :=
  (v = .slice none 0 0 ∧ n = 0 ∧ xs = []) ∨
  ∃ b cap cs, v = .slice (some ⟨b, 0, none⟩) n cap ∧ Blk w b cs E ∧ n ≤ cap ∧ cap ≤ maxLen ∧ cs.length = cap * k ∧ xs.length = n * k ∧ cs.take (n * k) = xs

/-- The block of an owned slice. -/
def blks : Value → List Nat
  | .slice (some a) _ _ => [a.block]
  | _ => []

theorem Own.nil (w : World) (E k : Nat) : Own w E k (.slice none 0 0) 0 [] := .inl ⟨rfl, rfl, rfl⟩
theorem Own.len {E k : Nat} {v : Value} {n : Nat} {xs : List Value} (h : Own w E k v n xs) : xs.length = n * k := by
  rcases h with ⟨_, rfl, rfl⟩ | ⟨b, cap, cs, _, _, _, _, _, h, _⟩
  · simp
  · exact h
theorem Own.ext {w' : World} {E k : Nat} {v : Value} {n : Nat} {xs : List Value} (h : Own w E k v n xs) (e : Ext w w') : Own w' E k v n xs := by
  rcases h with h | ⟨b, cap, cs, h1, h2, h3⟩
  · exact .inl h
  · exact .inr ⟨b, cap, cs, h1, h2.ext e, h3⟩
theorem Own.chg {w' : World} {S : List Nat} {E k : Nat} {v : Value} {n : Nat} {xs : List Value} (h : Own w E k v n xs) (c : Chg S w w') (hd : ∀ b ∈ blks v, b ∉ S) : Own w' E k v n xs := by
  rcases h with h | ⟨b, cap, cs, h1, h2, h3⟩
  · exact .inl h
  · exact .inr ⟨b, cap, cs, h1, c.blk h2 (hd b (by rw [h1]; simp [blks])), h3⟩
theorem Own.lt {E k : Nat} {v : Value} {n : Nat} {xs : List Value} (h : Own w E k v n xs) : ∀ b ∈ blks v, b < w.heap.size := by
  rcases h with ⟨rfl, _⟩ | ⟨b, cap, cs, rfl, h2, _⟩
  · simp [blks]
  · intro c hc; simp [blks] at hc; subst hc; exact h2.lt
theorem Own.cell {E k b cap : Nat} {n : Nat} {xs : List Value} (h : Own w E k (.slice (some ⟨b, 0, none⟩) n cap) n xs) {j : Nat} {u : Value} (hu : xs[j]? = some u) : w.cell? ⟨b, j, none⟩ = some u := by
  rcases h with ⟨h, _⟩ | ⟨b', cap', cs, h1, h2, _, _, _, _, h3⟩
  · cases h
  · cases h1
    rw [h2.cell]
    rw [← h3, List.getElem?_take] at hu
    split at hu
    · exact hu
    · cases hu
theorem Own.form {E k : Nat} {v : Value} {n : Nat} {xs : List Value} (h : Own w E k v n xs) : ∃ A c, v = .slice A n c ∧ n ≤ c ∧ c ≤ maxLen ∧ (A = none → n = 0 ∧ c = 0) ∧ ∀ ad, A = some ad → ad.off = 0 ∧ ad.spot = none := by
  rcases h with ⟨rfl, rfl, _⟩ | ⟨b, cap, cs, rfl, _, h1, h2, _⟩
  · exact ⟨none, 0, rfl, Nat.le_refl _, Nat.zero_le _, fun _ => ⟨rfl, rfl⟩, by simp⟩
  · exact ⟨_, cap, rfl, h1, h2, by simp, by simp⟩

/-- An owned slice of flat elements reads as they. -/
theorem Own.slr {α : Type} {enc : α → List Value} {E k : Nat} {v : Value} {n : Nat} {xs : List α} (h : Own w E k v n (xs.flatMap enc)) (hn : n = xs.length) (hk : ∀ x ∈ xs, (enc x).length = k) : SlR w k (Flat enc) v xs := by
  subst hn
  rcases h with ⟨rfl, h0, h1⟩ | ⟨b, cap, cs, rfl, h1, h2, h3, h4, h5, h6⟩
  · have : xs = [] := List.eq_nil_of_length_eq_zero h0
    subst this
    exact ⟨none, 0, rfl, Nat.le_refl _, Nat.zero_le _, fun _ => ⟨rfl, rfl⟩, by simp⟩
  · refine ⟨_, cap, rfl, h2, h3, by simp, fun ad ha i x hx => ?_⟩
    cases ha
    refine ⟨enc x, hk x (List.mem_of_getElem? hx), rfl, fun j u hu => ?_⟩
    rw [plain_add, h1.cell]
    have hflat : ∀ (ys : List α) (i : Nat), (∀ y ∈ ys, (enc y).length = k) → ys[i]? = some x → (ys.flatMap enc)[i * k + j]? = some u := by
      intro ys
      induction ys with
      | nil => intro i _ hi; simp at hi
      | cons y ys ih =>
        intro i hall hi
        have hy := hall y List.mem_cons_self
        cases i with
        | zero =>
          simp only [List.getElem?_cons_zero, Option.some.injEq] at hi
          subst hi
          have hj : j < (enc y).length := (List.getElem?_eq_some_iff.1 hu).1
          simp only [List.flatMap_cons, Nat.zero_mul, Nat.zero_add]
          rw [List.getElem?_append_left hj]
          exact hu
        | succ i =>
          simp only [List.getElem?_cons_succ] at hi
          have := ih i (fun z hz => hall z (List.mem_cons_of_mem _ hz)) hi
          simp only [List.flatMap_cons]
          rw [List.getElem?_append_right (by rw [hy, Nat.add_mul]; omega), hy]
          rw [show (i + 1) * k + j - k = i * k + j by rw [Nat.add_mul]; omega]
          exact this
    have := hflat xs i hk hx
    rw [← h6, List.getElem?_take] at this
    split at this
    · exact this
    · cases this

/-! ### 3. append -/
/-- What is appended: m elements whose cells are news. -/
def Src (w : World) (k : Nat) (x : Value) (m : Nat) (news : List Value) : Prop :=
  (∃ c, x = .slice none 0 c ∧ m = 0 ∧ news = []) ∨
  (∃ ad c, x = .slice (some ad) m c ∧ news.length = m * k ∧ ∀ j u, news[j]? = some u → w.cell? (ad.add j) = some u) ∨
  (∃ s : ByteArray, x = .string s ∧ k = 1 ∧ m = s.size ∧ news = s.data.toList.map fun b => Value.int .u8 b.toNat)

theorem Src.len {k : Nat} {x : Value} {m : Nat} {news : List Value} (h : Src w k x m news) : news.length = m * k := by
  rcases h with ⟨c, _, rfl, rfl⟩ | ⟨ad, c, _, h, _⟩ | ⟨s, _, rfl, rfl, rfl⟩
  · simp
  · exact h
  · rw [List.length_map, Array.length_toList, Nat.mul_one]; rfl
theorem Src.lenOf {k : Nat} {x : Value} {m : Nat} {news : List Value} (h : Src w k x m news) (w' : World) : (Builtin.lenOf x).run P w' = .ok m w' := by
  rcases h with ⟨c, rfl, rfl, _⟩ | ⟨ad, c, rfl, _⟩ | ⟨s, rfl, _, rfl, _⟩ <;> simp [Builtin.lenOf]
theorem Src.first {k : Nat} {x : Value} {m : Nat} {news : List Value} (h : Src w k x m news) {w' : World} (he : ∀ a, w'.cell? a = w.cell? a) : (Builtin.firstCells k m x).run P w' = .ok news.toArray w' := by
  rcases h with ⟨c, rfl, rfl, rfl⟩ | ⟨ad, c, rfl, hl, hc⟩ | ⟨s, rfl, rfl, rfl, rfl⟩
  · simp [Builtin.firstCells]
  · exact run_firstCells_some (P := P) w' k m ad m c news hl (fun j u hu => by rw [he]; exact hc j u hu)
  · have e : s.extract 0 s.size = s := by simp
    simp only [Builtin.firstCells, e, Sem.run_pure]
    congr 1
    apply Array.ext'
    simp
/-- An owned slice is a source. -/
theorem Own.src {E k : Nat} {v : Value} {n : Nat} {xs : List Value} (h : Own w E k v n xs) : Src w k v n xs := by
  rcases h with ⟨rfl, rfl, rfl⟩ | ⟨b, cap, cs, rfl, h1, h2, h3, h4, h5, h6⟩
  · exact .inl ⟨0, rfl, rfl, rfl⟩
  · refine .inr (.inl ⟨_, cap, rfl, h5, fun j u hu => ?_⟩)
    rw [plain_add, h1.cell]
    rw [← h6, List.getElem?_take] at hu
    split at hu
    · exact hu
    · cases hu

structure ElemOk (P : Program) (E k bytes : Nat) (z : List Value) : Prop where
  size : sizeB P E = some k
  zero : zeroB P E = some z
  bytesE : (P.info? E).map (·.bytes) = some bytes
  zlen : z.length = k
  pos : 0 < k

theorem app3 (xs news : List Value) (Z : Array Value) : xs.toArray ++ (news.toArray ++ Z) = (xs ++ news).toArray ++ Z := by apply Array.ext'; simp
theorem zeroCells_len (z : Array Value) (n : Nat) : (Builtin.zeroCells z n).size = n * z.size := by simp [Builtin.zeroCells]

/-- append onto a slice without room, whoever owns it: a new array. -/
theorem run_append_full {t t' ty E k bytes : Nat} {z : List Value} {d' : TypeDesc} (ht : P.underlying t = some (.slice E)) (ht' : P.underlying t' = some d') (hd' : ∀ q, d' ≠ .int q) (hE : ElemOk P E k bytes z)
    {x : Value} {A : Option Addr} {n m old : Nat} {xs news : List Value} (hv : Src w k (.slice A n old) n xs) (hx : Src w k x m news) (hold : old < n + m) (hb : (n + m) * bytes ≤ 140737488355328) (h63 : n + m ≤ maxLen) :
    ∃ v' w', (Builtin.append_ #[t, t'] ty #[.slice A n old, x]).run P w = .ok v' w' ∧ Own w' E k v' (n + m) (xs ++ news) ∧ Ext w w' ∧ ∃ b, blks v' = [b] ∧ w.heap.size ≤ b := by
  obtain ⟨hsz, hz0, hby, hzl, hk⟩ := hE
  have hI : (match d' with | .int _ => true | _ => false) = false := by cases d' <;> first | rfl | exact absurd rfl (hd' _)
  obtain ⟨i, hi, hi1⟩ : ∃ i, P.info? E = some i ∧ i.size = k := by
    unfold sizeB at hsz
    cases hq : P.info? E with
    | none => simp [hq] at hsz
    | some i => exact ⟨i, rfl, by simpa [hq] using hsz⟩
  have hby' : i.bytes = bytes := by simpa [hi] using hby
  obtain ⟨zv, hzv, hzc⟩ : ∃ zv, i.zero = some zv ∧ zv.cells = z.toArray := by
    unfold zeroB at hz0
    simp [hi] at hz0
    obtain ⟨zv, h1, h2⟩ := hz0
    exact ⟨zv, h1, by rw [← h2]⟩
  have hlen := hx.len
  have hwr : (xs ++ news).length = (n + m) * k := by rw [List.length_append, hv.len, hlen, Nat.add_mul]
  have hlo := fun w' => Src.lenOf (P := P) hx w'
  have hge := grownCap_ge w (n + m) old E
  have hcm : grownCap w (n + m) old E ≤ maxLen := grownCap_le_maxLen w (n + m) old E h63
  have hfit := growslice_fits hold hb
  have hsmall : n + m ≤ 9223372036854775807 := by simp only [maxLen] at h63; omega
  refine ⟨.slice (some ⟨w.heap.size, 0, none⟩) (n + m) (grownCap w (n + m) old E), w.drew.alloc (.cells (xs.toArray ++ news.toArray ++ Builtin.zeroCells zv.cells (grownCap w (n + m) old E - (n + m))) E), ?_, ?_, ?_, ⟨w.heap.size, rfl, Nat.le_refl _⟩⟩
  · have e1 : ¬ (n + m ≤ old) := by omega
    have f1 := Src.first (P := P) hv (w' := w.drew) (fun a => rfl)
    have f2 := Src.first (P := P) hx (w' := w.drew) (fun a => rfl)
    have e3 : ¬ (281474976710656 < Builtin.nextslicecap (n + m) old * bytes) := by omega
    have e4 : ¬ ((9223372036854775807 : Int) < (n : Int) + (m : Int)) := by omega
    simp [Builtin.append_, run_underlying ht, run_underlying ht', hI, sizeOf, typeInfo, zeroValue, hi, hi1, hzv, hby', hlo, e1, e3, e4, Question.forced, f1, f2, newRow, grownCap]
    rw [app3]
  · refine .inr ⟨w.heap.size, grownCap w (n + m) old E, xs ++ news ++ (Builtin.zeroCells zv.cells (grownCap w (n + m) old E - (n + m))).toList, rfl, ?_, hge, hcm, ?_, hwr, ?_⟩
    · refine ⟨(0, 0), ?_, fun j _ _ => Nat.zero_le j⟩
      have := heap_alloc_new w.drew (.cells (xs.toArray ++ news.toArray ++ Builtin.zeroCells zv.cells (grownCap w (n + m) old E - (n + m))) E)
      have hs : w.drew.heap.size = w.heap.size := rfl
      rw [hs] at this
      rw [this]
      congr 2
      apply Array.ext'
      simp
    · rw [List.length_append, hwr, Array.length_toList, zeroCells_len, hzc]
      simp only [List.size_toArray, hzl, ← Nat.add_mul]
      congr 1
      omega
    · rw [← hwr]
      exact List.take_left
  · exact ⟨rfl, rfl, rfl, by simp, fun q hq => heap_alloc_old w.drew _ hq⟩

theorem run_append {t t' ty E k bytes : Nat} {z : List Value} {d' : TypeDesc} (ht : P.underlying t = some (.slice E)) (ht' : P.underlying t' = some d') (hd' : ∀ q, d' ≠ .int q) (hE : ElemOk P E k bytes z)
    {v x : Value} {n m : Nat} {xs news : List Value} (hv : Own w E k v n xs) (hx : Src w k x m news) (h1 : ∀ u ∈ news, u.oneCell' = true) (hb : (n + m) * bytes ≤ 140737488355328) (h63 : n + m ≤ maxLen) :
    ∃ v' w', (Builtin.append_ #[t, t'] ty #[v, x]).run P w = .ok v' w' ∧ Own w' E k v' (n + m) (xs ++ news) ∧ Chg (blks v) w w' ∧ (blks v' = blks v ∨ ∃ b, blks v' = [b] ∧ w.heap.size ≤ b) ∧ (v' = .slice none 0 0 ↔ v = .slice none 0 0 ∧ m = 0) := by
  obtain ⟨hsz, hz0, hby, hzl, hk⟩ := hE
  have hI : (match d' with | .int _ => true | _ => false) = false := by cases d' <;> first | rfl | exact absurd rfl (hd' _)
  obtain ⟨i, hi, hi1⟩ : ∃ i, P.info? E = some i ∧ i.size = k := by
    unfold sizeB at hsz
    cases hq : P.info? E with
    | none => simp [hq] at hsz
    | some i => exact ⟨i, rfl, by simpa [hq] using hsz⟩
  have hby' : i.bytes = bytes := by simpa [hi] using hby
  obtain ⟨zv, hzv, hzc⟩ : ∃ zv, i.zero = some zv ∧ zv.cells = z.toArray := by
    unfold zeroB at hz0
    simp [hi] at hz0
    obtain ⟨zv, h1, h2⟩ := hz0
    exact ⟨zv, h1, by rw [← h2]⟩
  have hlen := hx.len
  have hwr : (xs ++ news).length = (n + m) * k := by rw [List.length_append, hv.len, hlen, Nat.add_mul]
  have hlo := fun w' => Src.lenOf (P := P) hx w'
  -- a new array
  have grown : ∀ (old : Nat) (A : Option Addr), v = .slice A n old → (A = none → n = 0 ∧ xs = []) → old < n + m → 
      (∀ w' : World, (∀ a, w'.cell? a = w.cell? a) → (Builtin.firstCells k n v).run P w' = .ok xs.toArray w') →
      ∃ v' w', (Builtin.append_ #[t, t'] ty #[v, x]).run P w = .ok v' w' ∧ Own w' E k v' (n + m) (xs ++ news) ∧ Chg (blks v) w w' ∧ (blks v' = blks v ∨ ∃ b, blks v' = [b] ∧ w.heap.size ≤ b) ∧ v' ≠ .slice none 0 0 := by
    intro old A hvA hA hold hfo
    have hge := grownCap_ge w (n + m) old E
    have hcm : grownCap w (n + m) old E ≤ maxLen := grownCap_le_maxLen w (n + m) old E h63
    have hfit := growslice_fits hold hb
    have hsmall : n + m ≤ 9223372036854775807 := by simp only [maxLen] at h63; omega
    have h63' : ¬ (((n + m : Nat) : Int) > IntKind.i64.max ∧ (false = true ∨ i.bytes = 0)) := by
      have : IntKind.i64.max = 9223372036854775807 := by decide
      omega
    have hnew := fun (w' : World) he => Src.first (P := P) hx (w' := w') he
    refine ⟨.slice (some ⟨w.heap.size, 0, none⟩) (n + m) (grownCap w (n + m) old E), w.drew.alloc (.cells (xs.toArray ++ news.toArray ++ Builtin.zeroCells zv.cells (grownCap w (n + m) old E - (n + m))) E), ?_, ?_, ?_, ?_, by simp⟩
    · have e1 : ¬ (n + m ≤ old) := by omega
      have e2 : ¬ (Builtin.nextslicecap (n + m) old * i.bytes > 2 ^ 48) := by rw [hby']; omega
      have f1 := hfo w.drew (fun a => rfl)
      have f2 := hnew w.drew (fun a => rfl)
      have e3 : ¬ (281474976710656 < Builtin.nextslicecap (n + m) old * bytes) := by omega
      have e4 : ¬ ((9223372036854775807 : Int) < (n : Int) + (m : Int)) := by omega
      subst hvA
      simp [Builtin.append_, run_underlying ht, run_underlying ht', hI, sizeOf, typeInfo, zeroValue, hi, hi1, hzv, hby', hlo, e1, e3, e4, Question.forced, f1, f2, newRow, grownCap]
      rw [app3]
    · refine .inr ⟨w.heap.size, grownCap w (n + m) old E, xs ++ news ++ (Builtin.zeroCells zv.cells (grownCap w (n + m) old E - (n + m))).toList, rfl, ?_, hge, hcm, ?_, hwr, ?_⟩
      · refine ⟨(0, 0), ?_, fun j _ _ => Nat.zero_le j⟩
        have := heap_alloc_new w.drew (.cells (xs.toArray ++ news.toArray ++ Builtin.zeroCells zv.cells (grownCap w (n + m) old E - (n + m))) E)
        have hs : w.drew.heap.size = w.heap.size := rfl
        rw [hs] at this
        rw [this]
        congr 2
        apply Array.ext'
        simp
      · rw [List.length_append, hwr, Array.length_toList, zeroCells_len, hzc]
        simp only [List.size_toArray, hzl, ← Nat.add_mul]
        congr 1
        omega
      · rw [← hwr]
        exact List.take_left
    · exact ⟨rfl, rfl, rfl, by simp, fun q hq _ => heap_alloc_old w.drew _ hq⟩
    · exact .inr ⟨w.heap.size, rfl, Nat.le_refl _⟩
  rcases hv with ⟨rfl, rfl, rfl⟩ | ⟨b, cap, cs, rfl, h2, h3, h4, h5, h6, h7⟩
  · by_cases hm : m = 0
    · subst hm
      have hn0 : news = [] := List.eq_nil_of_length_eq_zero (by simpa using hlen)
      subst hn0
      have f := Src.first (P := P) hx (w' := w) (fun a => rfl)
      refine ⟨.slice none 0 0, w, ?_, by simpa using Own.nil w E k, Chg.refl _ _, .inl rfl, by simp⟩
      simp [Builtin.append_, run_underlying ht, run_underlying ht', hI, sizeOf, typeInfo, hi, hi1, hlo, f]
    · obtain ⟨v', w', a1, a2, a3, a4, a5⟩ := grown 0 none rfl (fun _ => ⟨rfl, rfl⟩) (by omega) (fun w' _ => by simp [Builtin.firstCells])
      exact ⟨v', w', a1, a2, a3, a4, ⟨fun h => absurd h a5, fun h => absurd h.2 hm⟩⟩
  · by_cases hroom : n + m ≤ cap
    · have hcap : n * k + m * k ≤ cap * k := by rw [← Nat.add_mul]; exact Nat.mul_le_mul_right _ hroom
      obtain ⟨w', hr, hb', hch, hsz'⟩ := storeCells_blk P w b E news 0 (n * k) cs h2 (by omega) h1
      have f := Src.first (P := P) hx (w' := w) (fun a => rfl)
      refine ⟨.slice (some ⟨b, 0, none⟩) (n + m) cap, w', ?_, .inr ⟨b, cap, _, rfl, hb', hroom, h4, ?_, hwr, ?_⟩, hch, .inl rfl, by simp⟩
      · simp [Builtin.append_, run_underlying ht, run_underlying ht', hI, sizeOf, typeInfo, hi, hi1, hlo, hroom, f, plain_add, hr]
      · simp only [Nat.add_zero, List.length_append, List.length_take, List.length_drop]
        omega
      · have hx7 : cs.take (n * k + 0) = xs := by simpa using h7
        rw [hx7, ← hwr]
        exact List.take_left
    · obtain ⟨v', w', a1, a2, a3, a4, a5⟩ := grown cap (some ⟨b, 0, none⟩) rfl (by simp) (by omega) (fun w' he => by
        refine run_firstCells_some (P := P) w' k n ⟨b, 0, none⟩ n cap xs h6 (fun j u hu => ?_)
        rw [he, plain_add, h2.cell]
        rw [← h7, List.getElem?_take] at hu
        split at hu
        · exact hu
        · cases hu)
      exact ⟨v', w', a1, a2, a3, a4, ⟨fun h => absurd h a5, fun h => by cases h.1⟩⟩
end
end Go.Proofs.YtnhjohcgnmogaaaDoor
