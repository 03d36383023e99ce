/- What a call owns at a time, apart: a list of resources, each with the blocks it lies in. No program is named here. -/
import Derived.Test.YtnhjohcgnmogaaaDoorRead
set_option linter.unusedVariables false
set_option linter.unusedSimpArgs false
set_option linter.unusedSectionVars false
namespace Go.Proofs.YtnhjohcgnmogaaaDoor
open Go Go.RowKit

/-- Of the old blocks those in fp alone have been written. -/
structure ChgP (fp : Nat → Prop) (w w' : World) : Prop where
  os : w'.os = w.os
  tape : w'.tape = w.tape
  output : w'.output = w.output
  size : w.heap.size ≤ w'.heap.size
  block : ∀ k, k < w.heap.size → ¬ fp k → w'.heap[k]? = w.heap[k]?
/-- No block. -/
abbrev NB : Nat → Prop := fun _ => False

theorem ChgP.refl (fp : Nat → Prop) (w : World) : ChgP fp w w := ⟨rfl, rfl, rfl, Nat.le_refl _, fun _ _ _ => rfl⟩
theorem ChgP.trans2 {fp g : Nat → Prop} {w1 w2 w3 : World} (h : ChgP fp w1 w2) (k : ChgP g w2 w3) (hs : ∀ b, g b → b < w1.heap.size → fp b) : ChgP fp w1 w3 :=
  ⟨k.os.trans h.os, k.tape.trans h.tape, k.output.trans h.output, Nat.le_trans h.size k.size, fun i hi hn => (k.block i (Nat.lt_of_lt_of_le hi h.size) fun hm => hn (hs i hm hi)).trans (h.block i hi hn)⟩
theorem ChgP.trans {fp : Nat → Prop} {w1 w2 w3 : World} (h : ChgP fp w1 w2) (k : ChgP fp w2 w3) : ChgP fp w1 w3 := h.trans2 k fun _ hb _ => hb
theorem ChgP.of_ext {fp : Nat → Prop} {w w' : World} (e : Ext w w') : ChgP fp w w' := ⟨e.os, e.tape, e.output, e.size, fun k hk _ => e.block k hk⟩
theorem ChgP.ext {w w' : World} (h : ChgP NB w w') : Ext w w' := ⟨h.os, h.tape, h.output, h.size, fun k hk => h.block k hk id⟩
theorem ChgP.of_chg {S : List Nat} {fp : Nat → Prop} {w w' : World} (h : Chg S w w') (hs : ∀ b ∈ S, fp b) : ChgP fp w w' := ⟨h.os, h.tape, h.output, h.size, fun k hk hn => h.block k hk fun hm => hn (hs k hm)⟩
theorem ChgP.mono {fp g : Nat → Prop} {w w' : World} (h : ChgP fp w w') (hs : ∀ b, fp b → b < w.heap.size → g b) : ChgP g w w' := ⟨h.os, h.tape, h.output, h.size, fun k hk hn => h.block k hk fun hm => hn (hs k hm hk)⟩
/-- A fact that reads other blocks. -/
theorem ChgP.foot {fp g : Nat → Prop} {w w' : World} {F : World → Prop} (c : ChgP fp w w') (h : Foot F g w) (hd : ∀ b, g b → ¬ fp b) : Foot F g w' :=
  ⟨fun b hb => Nat.lt_of_lt_of_le (h.lt b hb) c.size, fun w'' hw => h.all w'' fun b hb => (hw b hb).trans (c.block b (h.lt b hb) (hd b hb))⟩

/-- A resource: what it says of a world, and of which blocks it speaks. -/
structure Rs where
  P : World → (Nat → Prop) → Prop
  lt : ∀ {w fp}, P w fp → ∀ b, fp b → b < w.heap.size
  loc : ∀ {w w' fp}, P w fp → (∀ b, fp b → w'.heap[b]? = w.heap[b]?) → P w' fp

/-- The resources lie in blocks of U, each in blocks of its own. -/
def Sep (w : World) : (Nat → Prop) → List Rs → Prop
  | _, [] => True
  | U, r :: rs => ∃ fp, r.P w fp ∧ (∀ b, fp b → U b) ∧ Sep w (fun b => U b ∧ ¬ fp b) rs

theorem Sep.mono {w : World} : ∀ {rs : List Rs} {U V : Nat → Prop}, Sep w U rs → (∀ b, U b → V b) → Sep w V rs
  | [], _, _, _, _ => trivial
  | r :: rs, U, V, ⟨fp, h1, h2, h3⟩, hs => ⟨fp, h1, fun b hb => hs b (h2 b hb), h3.mono fun b hb => ⟨hs b hb.1, hb.2⟩⟩
theorem Sep.below {w : World} : ∀ {rs : List Rs} {U : Nat → Prop}, Sep w U rs → Sep w (fun b => U b ∧ b < w.heap.size) rs
  | [], _, _ => trivial
  | r :: rs, U, ⟨fp, h1, h2, h3⟩ => ⟨fp, h1, fun b hb => ⟨h2 b hb, r.lt h1 b hb⟩, h3.below.mono fun b hb => ⟨⟨hb.1.1, hb.2⟩, hb.1.2⟩⟩
theorem Sep.loc {w w' : World} : ∀ {rs : List Rs} {U : Nat → Prop}, Sep w U rs → (∀ b, U b → b < w.heap.size → w'.heap[b]? = w.heap[b]?) → Sep w' U rs
  | [], _, _, _ => trivial
  | r :: rs, U, ⟨fp, h1, h2, h3⟩, hs => ⟨fp, r.loc h1 fun b hb => hs b (h2 b hb) (r.lt h1 b hb), h2, h3.loc fun b hb hl => hs b hb.1 hl⟩
theorem Sep.swap {w : World} {r1 r2 : Rs} {rs : List Rs} {U : Nat → Prop} : Sep w U (r1 :: r2 :: rs) → Sep w U (r2 :: r1 :: rs)
  | ⟨f1, h1, h2, f2, k1, k2, h3⟩ => ⟨f2, k1, fun b hb => (k2 b hb).1, f1, h1, fun b hb => ⟨h2 b hb, fun hc => (k2 b hc).2 hb⟩, h3.mono fun b hb => ⟨⟨hb.1.1, hb.2⟩, hb.1.2⟩⟩
theorem Sep.pick {w : World} : ∀ (rs : List Rs) (i : Nat) {r : Rs} {U : Nat → Prop}, rs[i]? = some r → Sep w U rs → Sep w U (r :: rs.eraseIdx i)
  | [], i, r, U, h, _ => by simp at h
  | x :: rs, 0, r, U, h, hs => by
    simp only [List.getElem?_cons_zero, Option.some.injEq] at h
    subst h
    exact hs
  | x :: rs, i + 1, r, U, h, ⟨fp, h1, h2, h3⟩ => by
    simp only [List.getElem?_cons_succ] at h
    have := Sep.pick rs i h h3
    exact Sep.swap ⟨fp, h1, h2, this⟩
theorem Sep.tail {w : World} {r : Rs} {rs : List Rs} {U : Nat → Prop} : Sep w U (r :: rs) → Sep w U rs
  | ⟨_, _, _, h⟩ => h.mono fun _ hb => hb.1
theorem Sep.take {w : World} : ∀ (n : Nat) {rs : List Rs} {U : Nat → Prop}, Sep w U rs → Sep w U (rs.take n)
  | 0, _, _, _ => by simp [Sep]
  | n + 1, [], _, _ => by simp [Sep]
  | n + 1, r :: rs, U, ⟨fp, h1, h2, h3⟩ => by
    rw [List.take_succ_cons]
    exact ⟨fp, h1, h2, h3.take n⟩
theorem Sep.app {w : World} : ∀ {rs1 rs2 : List Rs} {A B U : Nat → Prop}, Sep w A rs1 → Sep w B rs2 → (∀ b, A b → ¬ B b) → (∀ b, A b → U b) → (∀ b, B b → U b) → Sep w U (rs1 ++ rs2)
  | [], rs2, A, B, U, _, h2, _, _, hB => h2.mono hB
  | r :: rs1, rs2, A, B, U, ⟨fp, g1, g2, g3⟩, h2, hd, hA, hB =>
    ⟨fp, g1, fun b hb => hA b (g2 b hb), g3.app h2 (fun b hb => hd b hb.1) (fun b hb => ⟨hA b hb.1, hb.2⟩) (fun b hb => ⟨hB b hb, fun hc => hd b (g2 b hc) hb⟩)⟩
theorem Sep.split {w : World} : ∀ (rs1 : List Rs) {rs2 : List Rs} {U : Nat → Prop}, Sep w U (rs1 ++ rs2) → ∃ A : Nat → Prop, Sep w A rs1 ∧ (∀ b, A b → U b ∧ b < w.heap.size) ∧ Sep w (fun b => U b ∧ ¬ A b) rs2
  | [], rs2, U, h => ⟨NB, trivial, fun _ hb => hb.elim, Sep.mono (rs := rs2) h fun b hb => ⟨hb, id⟩⟩
  | r :: rs1, rs2, U, ⟨fp, h1, h2, h3⟩ => by
    obtain ⟨A, g1, g2, g3⟩ := Sep.split rs1 h3
    refine ⟨fun b => fp b ∨ A b, ⟨fp, h1, fun b hb => .inl hb, g1.mono fun b hb => ⟨.inr hb, (g2 b hb).1.2⟩⟩, fun b hb => ?_, g3.mono fun b hb => ⟨hb.1.1, fun hc => hc.elim hb.1.2 hb.2⟩⟩
    rcases hb with hb | hb
    · exact ⟨h2 b hb, r.lt h1 b hb⟩
    · exact ⟨(g2 b hb).1.1, (g2 b hb).2⟩
theorem Sep.get {w : World} {rs : List Rs} {U : Nat → Prop} (i : Nat) {r : Rs} (h : Sep w U rs) (hi : rs[i]? = some r) : ∃ fp, r.P w fp ∧ ∀ b, fp b → U b := by
  obtain ⟨fp, h1, h2, _⟩ := Sep.pick rs i hi h
  exact ⟨fp, h1, h2⟩
theorem Sep.apart {w : World} {rs : List Rs} {U : Nat → Prop} (h : Sep w U rs) : ∀ {rs : List Rs} {U : Nat → Prop}, Sep w U rs → ∀ (i j : Nat) {r s : Rs}, i < j → rs[i]? = some r → rs[j]? = some s → ∃ f g, r.P w f ∧ s.P w g ∧ ∀ b, f b → ¬ g b
  | [], _, _, i, j, r, s, _, h, _ => by simp at h
  | x :: rs, U, ⟨fp, h1, h2, h3⟩, 0, j + 1, r, s, _, hi, hj => by
    simp only [List.getElem?_cons_zero, Option.some.injEq] at hi
    subst hi
    simp only [List.getElem?_cons_succ] at hj
    obtain ⟨g, k1, k2⟩ := h3.get j hj
    exact ⟨fp, g, h1, k1, fun b hb hc => (k2 b hc).2 hb⟩
  | x :: rs, U, ⟨fp, h1, h2, h3⟩, i + 1, j + 1, r, s, hij, hi, hj => by
    simp only [List.getElem?_cons_succ] at hi hj
    exact Sep.apart h h3 i j (by omega) hi hj

/-- Since w0 nothing old but fp was written; rs is what there is. -/
structure St (fp : Nat → Prop) (w0 w : World) (rs : List Rs) : Prop where
  chg : ChgP fp w0 w
  sep : Sep w (fun b => fp b ∨ w0.heap.size ≤ b) rs

section
variable {fp : Nat → Prop} {w0 w w' : World} {rs rest : List Rs} {r : Rs}
theorem St.init (h : Sep w fp rs) : St fp w w rs := ⟨ChgP.refl _ _, h.mono fun _ hb => .inl hb⟩
theorem St.begin (fp : Nat → Prop) (w : World) : St fp w w [] := ⟨ChgP.refl _ _, trivial⟩
/-- Only more blocks. -/
theorem St.x (h : St NB w0 w rs) : Ext w0 w := h.chg.ext
theorem St.pick (i : Nat) (h : St fp w0 w rs) (hi : rs[i]? = some r) : St fp w0 w (r :: rs.eraseIdx i) := ⟨h.chg, Sep.pick rs i hi h.sep⟩
theorem St.tail (h : St fp w0 w (r :: rs)) : St fp w0 w rs := ⟨h.chg, h.sep.tail⟩
theorem St.take (n : Nat) (h : St fp w0 w rs) : St fp w0 w (rs.take n) := ⟨h.chg, h.sep.take n⟩
theorem St.get (i : Nat) (h : St fp w0 w rs) (hi : rs[i]? = some r) : ∃ g, r.P w g := by
  obtain ⟨g, h1, _⟩ := h.sep.get i hi
  exact ⟨g, h1⟩
/-- A call that may write what the first resources speak of. -/
theorem St.frame (rs1 : List Rs) (h : St fp w0 w (rs1 ++ rest)) : ∃ g, Sep w g rs1 ∧ (∀ w', ChgP g w w' → ChgP fp w0 w') ∧ (∀ (j : Nat) (r : Rs), rest[j]? = some r → ∀ w', ChgP g w w' → ∃ f, r.P w' f) ∧ ∀ w' rs', St g w w' rs' → St fp w0 w' (rs' ++ rest) := by
  obtain ⟨A, h1, h2, h3⟩ := Sep.split rs1 h.sep
  have key : ∀ w', ChgP A w w' → ChgP fp w0 w' := fun w' c => h.chg.trans2 c fun b hb hl => ((h2 b hb).1).elim id fun h => by omega
  have hrest : ∀ w', ChgP A w w' → Sep w' (fun b => ((fp b ∨ w0.heap.size ≤ b) ∧ ¬ A b) ∧ b < w.heap.size) rest := fun w' c => h3.below.loc fun b hb hl => c.block b hl hb.1.2
  refine ⟨A, h1, key, fun j r hj w' c => ?_, fun w' rs' k => ⟨key w' k.chg, ?_⟩⟩
  · obtain ⟨f, g1, _⟩ := (hrest w' c).get j hj
    exact ⟨f, g1⟩
  · refine k.sep.app (hrest w' k.chg) (fun b hb hc => ?_) (fun b hb => ?_) (fun b hb => hb.1.1)
    · rcases hb with hb | hb
      · exact hc.1.2 hb
      · have := hc.2; omega
    · rcases hb with hb | hb
      · exact (h2 b hb).1
      · exact .inr (Nat.le_trans h.chg.size hb)
theorem St.frame1 {r1 : Rs} (h : St fp w0 w (r1 :: rest)) : ∃ g, Sep w g [r1] ∧ (∀ w', ChgP g w w' → ChgP fp w0 w') ∧ (∀ (j : Nat) (r : Rs), rest[j]? = some r → ∀ w', ChgP g w w' → ∃ f, r.P w' f) ∧ ∀ w' rs', St g w w' rs' → St fp w0 w' (rs' ++ rest) := St.frame [r1] h
theorem St.frame2 {r1 r2 : Rs} (h : St fp w0 w (r1 :: r2 :: rest)) : ∃ g, Sep w g [r1, r2] ∧ (∀ w', ChgP g w w' → ChgP fp w0 w') ∧ (∀ (j : Nat) (r : Rs), rest[j]? = some r → ∀ w', ChgP g w w' → ∃ f, r.P w' f) ∧ ∀ w' rs', St g w w' rs' → St fp w0 w' (rs' ++ rest) := St.frame [r1, r2] h
theorem St.frame3 {r1 r2 r3 : Rs} (h : St fp w0 w (r1 :: r2 :: r3 :: rest)) : ∃ g, Sep w g [r1, r2, r3] ∧ (∀ w', ChgP g w w' → ChgP fp w0 w') ∧ (∀ (j : Nat) (r : Rs), rest[j]? = some r → ∀ w', ChgP g w w' → ∃ f, r.P w' f) ∧ ∀ w' rs', St g w w' rs' → St fp w0 w' (rs' ++ rest) := St.frame [r1, r2, r3] h
/-- A call that writes nothing old. -/
theorem St.new {rs' : List Rs} (h : St fp w0 w rest) (k : St NB w w' rs') : St fp w0 w' (rs' ++ rest) := by
  obtain ⟨g, _, h1, _, h2⟩ := St.frame (rs1 := []) (rest := rest) h
  exact h2 w' rs' ⟨ChgP.of_ext k.chg.ext, k.sep.mono fun b hb => hb.elim False.elim .inr⟩
theorem St.ext (h : St fp w0 w rs) (e : Ext w w') : St fp w0 w' rs := h.new (rs' := []) ⟨ChgP.of_ext e, trivial⟩
/-- A new resource. -/
theorem St.add {g : Nat → Prop} (h : St fp w0 w rs) (e : Ext w w') (hr : r.P w' g) (hg : ∀ b, g b → w.heap.size ≤ b) : St fp w0 w' (r :: rs) :=
  h.new (rs' := [r]) ⟨ChgP.of_ext e, g, hr, fun b hb => .inr (hg b hb), trivial⟩
/-- The first resource is written. -/
theorem St.upd {r' : Rs} (h : St fp w0 w (r :: rs)) (hu : ∀ g, r.P w g → ChgP g w w' ∧ ∃ g', r'.P w' g' ∧ ∀ b, g' b → g b ∨ w.heap.size ≤ b) : St fp w0 w' (r' :: rs) := by
  obtain ⟨g, ⟨g0, h1, h2, _⟩, _, _, h4⟩ := St.frame (rs1 := [r]) (rest := rs) h
  obtain ⟨c, g', k1, k2⟩ := hu g0 h1
  exact h4 w' [r'] ⟨c.mono fun b hb _ => h2 b hb, g', k1, fun b hb => (k2 b hb).elim (fun hb => .inl (h2 b hb)) .inr, trivial⟩
theorem St.conv {r' : Rs} (h : St fp w0 w (r :: rs)) (hu : ∀ g, r.P w g → ∃ g', r'.P w g' ∧ ∀ b, g' b → g b) : St fp w0 w (r' :: rs) :=
  h.upd fun g hg => by
    obtain ⟨g', h1, h2⟩ := hu g hg
    exact ⟨ChgP.refl _ _, g', h1, fun b hb => .inl (h2 b hb)⟩
/-- The result's resources out of those of the call. -/
theorem St.after {w1 : World} (h : St fp w0 w []) (k : St NB w w1 rs) : St fp w0 w1 rs := by
  have := h.new k
  simpa using this
end

/-! ### The kinds of resources -/
theorem lt_of_heap {w w' : World} {b : Nat} (h : b < w.heap.size) (e : w'.heap[b]? = w.heap[b]?) : b < w'.heap.size := by
  by_cases hl : b < w'.heap.size
  · exact hl
  · rw [Array.getElem?_eq_none (by omega), Array.getElem?_eq_getElem h] at e
    cases e
def blkR (b : Nat) (cs : List Value) (T : TypeId) : Rs where
  P w fp := Blk w b cs T ∧ ∀ c, fp c ↔ c = b
  lt h c hc := by rw [(h.2 c).1 hc]; exact h.1.lt
  loc h hw := ⟨h.1.foot.all _ fun c hc => hw c ((h.2 c).2 hc), h.2⟩
def ownR (E k : Nat) (v : Value) (n : Nat) (xs : List Value) : Rs where
  P w fp := Own w E k v n xs ∧ ∀ c, fp c ↔ c ∈ blks v
  lt h c hc := h.1.lt c ((h.2 c).1 hc)
  loc h hw := ⟨h.1.foot.all _ fun c hc => hw c ((h.2 c).2 hc), h.2⟩
/-- A fact about memory that is only read. -/
def anyR (F : World → Prop) : Rs where
  P w fp := Foot F fp w
  lt h := h.lt
  loc h hw := ⟨fun b hb => lt_of_heap (h.lt b hb) (hw b hb), fun w'' h'' => h.all w'' fun b hb => (h'' b hb).trans (hw b hb)⟩
def exR {α : Type} (r : α → Rs) : Rs where
  P w fp := ∃ x, (r x).P w fp
  lt h := by obtain ⟨x, h⟩ := h; exact (r x).lt h
  loc h hw := by obtain ⟨x, h⟩ := h; exact ⟨x, (r x).loc h hw⟩
def pureR (p : Prop) : Rs where
  P w fp := p ∧ ∀ b, ¬ fp b
  lt h b hb := (h.2 b hb).elim
  loc h _ := h
def starR (rs : List Rs) : Rs where
  P w fp := Sep w fp rs ∧ ∀ b, fp b → b < w.heap.size
  lt h := h.2
  loc h hw := ⟨h.1.loc fun b hb _ => hw b hb, fun b hb => lt_of_heap (h.2 b hb) (hw b hb)⟩

section
variable {fp : Nat → Prop} {w0 w w' : World} {rs rest : List Rs} {r : Rs} {b : Nat} {cs cs' : List Value} {T : TypeId} {E k n : Nat} {v v' : Value} {xs xs' : List Value}
theorem St.blk (i : Nat) (h : St fp w0 w rs) (hi : rs[i]? = some (blkR b cs T)) : Blk w b cs T := by obtain ⟨g, h1, _⟩ := h.get i hi; exact h1
theorem St.own (i : Nat) (h : St fp w0 w rs) (hi : rs[i]? = some (ownR E k v n xs)) : Own w E k v n xs := by obtain ⟨g, h1, _⟩ := h.get i hi; exact h1
theorem St.any (i : Nat) {F : World → Prop} (h : St fp w0 w rs) (hi : rs[i]? = some (anyR F)) : F w := by obtain ⟨g, h1⟩ := h.get i hi; exact Foot.now h1
/-- .. in every world that only has more blocks. -/
theorem St.anyX (i : Nat) {F : World → Prop} (h : St fp w0 w rs) (hi : rs[i]? = some (anyR F)) : ∀ w', Ext w w' → F w' := fun w' e => (h.ext e).any i hi
theorem St.newBlk (h : St fp w0 w rs) (hb : Blk w' b cs T) (e : Ext w w') (hl : w.heap.size = b) : St fp w0 w' (blkR b cs T :: rs) :=
  h.add (r := blkR b cs T) (g := fun c => c = b) e ⟨hb, fun _ => Iff.rfl⟩ fun c hc => by omega
theorem St.newOwn (h : St fp w0 w rs) (hb : Own w' E k v n xs) (e : Ext w w') (hl : ∀ c ∈ blks v, w.heap.size ≤ c) : St fp w0 w' (ownR E k v n xs :: rs) :=
  h.add (r := ownR E k v n xs) (g := fun c => c ∈ blks v) e ⟨hb, fun _ => Iff.rfl⟩ hl
theorem St.nilOwn (h : St fp w0 w rs) (E k : Nat) : St fp w0 w (ownR E k (.slice none 0 0) 0 [] :: rs) := h.newOwn (Own.nil w E k) Ext.rfl' (by simp [blks])
theorem St.setBlk (h : St fp w0 w (blkR b cs T :: rs)) (hb : Blk w' b cs' T) (c : Chg [b] w w') : St fp w0 w' (blkR b cs' T :: rs) :=
  h.upd fun g hg => ⟨ChgP.of_chg c fun x hx => (hg.2 x).2 (List.mem_singleton.1 hx), fun x => x = b, ⟨hb, fun _ => Iff.rfl⟩, fun x hx => .inl ((hg.2 x).2 hx)⟩
theorem St.setOwn {E' k' n' : Nat} (h : St fp w0 w (ownR E k v n xs :: rs)) (hb : Own w' E' k' v' n' xs') (c : Chg (blks v) w w') (hv : blks v' = blks v ∨ ∃ b, blks v' = [b] ∧ w.heap.size ≤ b) : St fp w0 w' (ownR E' k' v' n' xs' :: rs) :=
  h.upd fun g hg => ⟨ChgP.of_chg c fun x hx => (hg.2 x).2 hx, fun x => x ∈ blks v', ⟨hb, fun _ => Iff.rfl⟩, fun x hx => by
    rcases hv with hv | ⟨b, hv, hl⟩
    · exact .inl ((hg.2 x).2 (hv ▸ hx))
    · rw [hv] at hx
      rw [List.mem_singleton.1 hx]
      exact .inr hl⟩
theorem St.star {rs1 : List Rs} (h : St fp w0 w (starR rs1 :: rs)) : St fp w0 w (rs1 ++ rs) := by
  obtain ⟨c, f, ⟨h1, h2⟩, h3, h4⟩ := h
  exact ⟨c, h1.app h4 (fun b hb hc => hc.2 hb) h3 fun b hb => hb.1⟩
theorem St.fold (rs1 : List Rs) (h : St fp w0 w (rs1 ++ rs)) : St fp w0 w (starR rs1 :: rs) := by
  obtain ⟨c, h⟩ := h
  obtain ⟨A, h1, h2, h3⟩ := Sep.split rs1 h
  exact ⟨c, A, ⟨h1, fun b hb => (h2 b hb).2⟩, fun b hb => (h2 b hb).1, h3⟩
theorem St.ex {α : Type} {f : α → Rs} (h : St fp w0 w (exR f :: rs)) : ∃ x, St fp w0 w (f x :: rs) := by
  obtain ⟨c, g, ⟨x, h1⟩, h3, h4⟩ := h
  exact ⟨x, c, g, h1, h3, h4⟩
theorem St.mkEx {α : Type} {f : α → Rs} (x : α) (h : St fp w0 w (f x :: rs)) : St fp w0 w (exR f :: rs) := by
  obtain ⟨c, g, h1, h3, h4⟩ := h
  exact ⟨c, g, ⟨x, h1⟩, h3, h4⟩
theorem St.pure {p : Prop} (h : St fp w0 w (pureR p :: rs)) : p ∧ St fp w0 w rs := by
  obtain ⟨c, g, h1, h3, h4⟩ := h
  exact ⟨h1.1, c, h4.mono fun b hb => hb.1⟩
theorem St.mkPure {p : Prop} (hp : p) (h : St fp w0 w rs) : St fp w0 w (pureR p :: rs) := h.add (g := NB) Ext.rfl' ⟨hp, fun _ h => h⟩ fun _ h => h.elim
/-- A block holds a slice. -/
theorem St.blkOwn (n k : Nat) (h : St fp w0 w (blkR b cs T :: rs)) (hn : cs.length = n * k) (hm : n ≤ maxLen) : St fp w0 w (ownR T k (.slice (some ⟨b, 0, none⟩) n n) n cs :: rs) :=
  h.conv fun g hg => ⟨g, ⟨Own.ofBlk hg.1 hn hm, fun c => by rw [hg.2 c]; simp [blks]⟩, fun _ hb => hb⟩
theorem St.ownAny {F : World → Prop} (h : St fp w0 w (ownR E k v n xs :: rs)) (hF : ∀ w', Own w' E k v n xs → F w') : St fp w0 w (anyR F :: rs) :=
  h.conv fun g hg => ⟨fun b => b ∈ blks v, hg.1.foot.mono hF, fun b hb => (hg.2 b).2 hb⟩
theorem St.blkAny {F : World → Prop} (h : St fp w0 w (blkR b cs T :: rs)) (hF : ∀ w', Blk w' b cs T → F w') : St fp w0 w (anyR F :: rs) :=
  h.conv fun g hg => ⟨fun c => c = b, hg.1.foot.mono hF, fun c hc => (hg.2 c).2 hc⟩
theorem St.anyMono {F G : World → Prop} (h : St fp w0 w (anyR F :: rs)) (hF : ∀ w', F w' → G w') : St fp w0 w (anyR G :: rs) :=
  h.conv fun g hg => ⟨g, Foot.mono hg hF, fun b hb => hb⟩
/-- What the fact says beyond memory. -/
theorem St.anyAnd {F G : World → Prop} (h : St fp w0 w (anyR F :: anyR G :: rs)) : St fp w0 w (anyR (fun w => F w ∧ G w) :: rs) := by
  obtain ⟨c, f, h1, h2, g, k1, k2, h3⟩ := h
  exact ⟨c, fun b => f b ∨ g b, Foot.and h1 k1, fun b hb => hb.elim (h2 b) fun hb => (k2 b hb).1, h3.mono fun b hb => ⟨hb.1.1, fun hc => hc.elim hb.1.2 hb.2⟩⟩
theorem St.newAny {F : World → Prop} {g : Nat → Prop} (h : St fp w0 w rs) (e : Ext w w') (hF : Foot F g w') (hl : ∀ b, g b → w.heap.size ≤ b) : St fp w0 w' (anyR F :: rs) := h.add (r := anyR F) e hF hl
/-- A fact that reads no memory of the call's own. -/
theorem St.trivAny {F : World → Prop} (h : St fp w0 w rs) (hF : ∀ w', F w') : St fp w0 w (anyR F :: rs) := h.newAny (g := NB) Ext.rfl' ⟨fun _ h => h.elim, fun w' _ => hF w'⟩ fun _ h => h.elim
theorem St.ne {i j c : Nat} {cs2 : List Value} {T2 : TypeId} (h : St fp w0 w rs) (hij : i ≠ j) (hi : rs[i]? = some (blkR b cs T)) (hj : rs[j]? = some (blkR c cs2 T2)) : b ≠ c := by
  intro e
  subst e
  rcases Nat.lt_or_gt_of_ne hij with hl | hl
  · obtain ⟨f, g, h1, h2, h3⟩ := Sep.apart h.sep h.sep i j hl hi hj
    exact h3 b ((h1.2 b).2 rfl) ((h2.2 b).2 rfl)
  · obtain ⟨f, g, h1, h2, h3⟩ := Sep.apart h.sep h.sep j i hl hj hi
    exact h3 b ((h1.2 b).2 rfl) ((h2.2 b).2 rfl)
theorem St.neOwn {i j : Nat} (h : St fp w0 w rs) (hij : i ≠ j) (hi : rs[i]? = some (blkR b cs T)) (hj : rs[j]? = some (ownR E k v n xs)) : b ∉ blks v := by
  intro e
  rcases Nat.lt_or_gt_of_ne hij with hl | hl
  · obtain ⟨f, g, h1, h2, h3⟩ := Sep.apart h.sep h.sep i j hl hi hj
    exact h3 b ((h1.2 b).2 rfl) ((h2.2 b).2 e)
  · obtain ⟨f, g, h1, h2, h3⟩ := Sep.apart h.sep h.sep j i hl hj hi
    exact h3 b ((h1.2 b).2 e) ((h2.2 b).2 rfl)
theorem St.ge {i : Nat} (h : St NB w0 w rs) (hi : rs[i]? = some (blkR b cs T)) : w0.heap.size ≤ b := by
  obtain ⟨g, h1, h2⟩ := h.sep.get i hi
  exact (h2 b ((h1.2 b).2 rfl)).elim False.elim id
/-- A store into an owned slice. -/
theorem Own.splice {cap o : Nat} {vs : List Value} {cs : List Value} (h1 : n ≤ cap) (h2 : cap ≤ maxLen) (h3 : cs.length = cap * k) (h4 : cs.take (n * k) = xs) (h5 : xs.length = n * k) (ho : o + vs.length ≤ n * k) (hb : Blk w' b (cs.take o ++ vs ++ cs.drop (o + vs.length)) E) :
    Own w' E k (.slice (some ⟨b, 0, none⟩) n cap) n (xs.take o ++ vs ++ xs.drop (o + vs.length)) := by
  have hc : n * k ≤ cap * k := Nat.mul_le_mul_right k h1
  refine .inr ⟨b, cap, _, rfl, hb, h1, h2, by simp only [List.length_append, List.length_take, List.length_drop]; omega, by simp only [List.length_append, List.length_take, List.length_drop]; omega, ?_⟩
  have e1 : n * k ≤ cs.length := by omega
  have e3 : n * k ≤ cs.length := by omega
  subst h4
  generalize n * k = m at *
  apply List.ext_getElem?
  intro j
  rcases Nat.lt_or_ge j o with hj | hj
  · rw [List.getElem?_take_of_lt (by omega), List.append_assoc, List.append_assoc, List.getElem?_append_left (by simp; omega), List.getElem?_append_left (by simp; omega), List.getElem?_take_of_lt hj, List.getElem?_take_of_lt hj, List.getElem?_take_of_lt (by omega)]
  · by_cases hm : j < m
    · have l1 : (List.take o cs).length = o := by simp; omega
      have l2 : (List.take o (List.take m cs)).length = o := by simp; omega
      rw [List.getElem?_take_of_lt hm, List.append_assoc, List.append_assoc, List.getElem?_append_right (l₁ := List.take o cs) (by rw [l1]; exact hj), List.getElem?_append_right (l₁ := List.take o (List.take m cs)) (by rw [l2]; exact hj), l1, l2]
      by_cases hv : j - o < vs.length
      · rw [List.getElem?_append_left hv, List.getElem?_append_left hv]
      · rw [List.getElem?_append_right (by omega), List.getElem?_append_right (by omega), List.getElem?_drop, List.getElem?_drop, List.getElem?_take_of_lt (by omega)]
    · rw [List.getElem?_eq_none (by simp; omega), List.getElem?_eq_none (by simp; omega)]
end
end Go.Proofs.YtnhjohcgnmogaaaDoor
