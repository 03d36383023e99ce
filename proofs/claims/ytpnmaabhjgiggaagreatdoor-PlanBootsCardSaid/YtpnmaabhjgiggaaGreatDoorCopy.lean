/- Copies of lists and states: what is owned, what is apart. No program is named here. -/
import Derived.Test.YtpnmaabhjgiggaaGreatDoorModel
set_option linter.unusedVariables false
set_option linter.unusedSimpArgs false
set_option linter.unusedSectionVars false
namespace Go.Proofs.YtpnmaabhjgiggaaGreatDoor
open Go Go.RowKit

theorem flat_one {α : Type} {enc : α → List Value} (h : ∀ x, ∀ u ∈ enc x, u.oneCell' = true) (xs : List α) : ∀ u ∈ xs.flatMap enc, u.oneCell' = true := by
  intro u hu
  obtain ⟨x, _, hx⟩ := List.mem_flatMap.1 hu
  exact h x u hx
theorem eI_one (x : Int) : ∀ u ∈ eI x, u.oneCell' = true := by simp [eI]
theorem eF_one (x : Bool) : ∀ u ∈ eF x, u.oneCell' = true := by simp [eF]
def PortsIn (w : World) : List Value → List PortM → Prop
  | [], [] => True
  | q :: qs, p :: ps => Sl w 1 16 (Flat eS) q p.msgs ∧ PortsIn w qs ps
  | _, _ => False
theorem PortsIn.len {w : World} : ∀ {qs : List Value} {ps : List PortM}, PortsIn w qs ps → qs.length = ps.length
  | [], [], _ => rfl
  | [], _ :: _, h => by simp [PortsIn] at h
  | _ :: _, [], h => by simp [PortsIn] at h
  | q :: qs, p :: ps, h => by simp [h.2.len]
theorem PortsIn.at {w : World} : ∀ {qs : List Value} {ps : List PortM} {i : Nat} {p : PortM}, PortsIn w qs ps → ps[i]? = some p → ∃ q, qs[i]? = some q ∧ Sl w 1 16 (Flat eS) q p.msgs
  | [], [], _, _, _, h => by simp at h
  | [], _ :: _, _, _, h, _ => by simp [PortsIn] at h
  | _ :: _, [], _, _, h, _ => by simp [PortsIn] at h
  | q :: qs, p :: ps, 0, x, h, hx => by
    simp only [List.getElem?_cons_zero, Option.some.injEq] at hx
    subst hx
    exact ⟨q, rfl, h.1⟩
  | q :: qs, p :: ps, i + 1, x, h, hx => by
    simp only [List.getElem?_cons_succ] at hx ⊢
    exact h.2.at hx
theorem PortsIn.ext {w w' : World} (e : Ext w w') : ∀ {qs : List Value} {ps : List PortM}, PortsIn w qs ps → PortsIn w' qs ps
  | [], [], _ => trivial
  | [], _ :: _, h => by simp [PortsIn] at h
  | _ :: _, [], h => by simp [PortsIn] at h
  | q :: qs, p :: ps, h => ⟨h.1.ext (Flat.mono _) e, h.2.ext e⟩
theorem PortsIn.agr {w w' : World} (e : Agr w w') : ∀ {qs : List Value} {ps : List PortM}, PortsIn w qs ps → PortsIn w' qs ps
  | [], [], _ => trivial
  | [], _ :: _, h => by simp [PortsIn] at h
  | _ :: _, [], h => by simp [PortsIn] at h
  | q :: qs, p :: ps, h => ⟨h.1.agr (Flat.mono _) e, h.2.agr e⟩
/-- What came in is read in old memory. -/
theorem PortsIn.foot {w : World} {qs : List Value} {ps : List PortM} (h : PortsIn w qs ps) : Foot (fun w' => PortsIn w' qs ps) (fun b => b < w.heap.size) w := ⟨fun _ hb => hb, fun w' hw => h.agr hw⟩
theorem PortsIn.set {w : World} {q' : Value} : ∀ {qs : List Value} {ps : List PortM} {i : Nat} {p : PortM}, PortsIn w qs ps → ps[i]? = some p → Sl w 1 16 (Flat eS) q' p.msgs → PortsIn w (qs.set i q') ps
  | [], [], _, _, _, h, _ => by simp at h
  | [], _ :: _, _, _, h, _, _ => by simp [PortsIn] at h
  | _ :: _, [], _, _, h, _, _ => by simp [PortsIn] at h
  | q :: qs, p :: ps, 0, x, h, hx, hq => by
    simp only [List.getElem?_cons_zero, Option.some.injEq] at hx
    subst hx
    exact ⟨hq, h.2⟩
  | q :: qs, p :: ps, i + 1, x, h, hx, hq => by
    simp only [List.getElem?_cons_succ] at hx
    exact ⟨h.1, h.2.set hx hq⟩
section
variable {w : World}
theorem Own.sl {α : Type} {enc : α → List Value} {E k bytes : Nat} {v : Value} {n : Nat} {xs : List α} (h : Own w E k v n (xs.flatMap enc)) (hn : n = xs.length) (hk : ∀ x ∈ xs, (enc x).length = k) (hb : xs.length * bytes ≤ lim) : Sl w k bytes (Flat enc) v xs := ⟨h.slr hn hk, hb⟩
/-- A store into an owned slice's cell. -/
theorem Own.blk {E k b : Nat} {n cap : Nat} {xs : List Value} (h : Own w E k (.slice (some ⟨b, 0, none⟩) n cap) n xs) : ∃ cs, Blk w b cs E ∧ n ≤ cap ∧ cap ≤ maxLen ∧ cs.length = cap * k ∧ xs.length = n * k ∧ cs.take (n * k) = xs := by
  rcases h with ⟨h, _⟩ | ⟨b', cap', cs, h1, h2, h3, h4, h5, h6, h7⟩
  · cases h
  · cases h1; exact ⟨cs, h2, h3, h4, h5, h6, h7⟩
theorem Own.ofBlk' {E k b : Nat} {n cap : Nat} {cs xs : List Value} (h : Blk w b cs E) (h1 : n ≤ cap) (h2 : cap ≤ maxLen) (h3 : cs.length = cap * k) (h4 : cs.take (n * k) = xs) (h5 : xs.length = n * k) : Own w E k (.slice (some ⟨b, 0, none⟩) n cap) n xs := .inr ⟨b, cap, cs, rfl, h, h1, h2, h3, h5, h4⟩
/-! ### A state of the call's own -/
def RestIn (w : World) (u3 u4 u5 u6 u7 u8 : Value) (s : StateM') : Prop :=
  Sl w 21 104 (Flat eProc) u3 s.procs ∧ Sl w 1 8 (Flat eI) u4 s.ready ∧ Sl w 2 16 (Flat eTimer) u5 s.timers ∧ Sl w 1 1 (Flat eF) u6 s.up ∧ Sl w 1 8 (Flat eI) u7 s.sems ∧ Sl w 2 32 RPort u8 s.ports
/-- A state whose pages may be written, with memory from B on. -/
def NewState (E9 B : Nat) (w : World) (v : Value) (s : StateM') : Prop :=
  ∃ u3 u4 u5 u6 u7 u8 u9 fp, v = .agg #[.int .i64 s.id, .int .i64 s.frame, .int .i64 s.epoch, u3, u4, u5, u6, u7, u8, u9] ∧ Foot (fun w' => RestIn w' u3 u4 u5 u6 u7 u8 s) fp w ∧
    Own w E9 66 u9 s.pages.length (s.pages.flatMap ePage) ∧ (∀ b ∈ blks u9, B ≤ b ∧ ¬ fp b) ∧ (∀ x ∈ s.pages, (ePage x).length = 66) ∧ s.pages.length * 80 ≤ lim
theorem NewState.is {E9 B : Nat} {v : Value} {s : StateM'} (h : NewState E9 B w v s) : IsState w v s := by
  obtain ⟨u3, u4, u5, u6, u7, u8, u9, fp, rfl, hf, hO, hn, hl, hb⟩ := h
  obtain ⟨h3, h4, h5, h6, h7, h8⟩ := hf.now
  exact ⟨u3, u4, u5, u6, u7, u8, u9, rfl, h3, h4, h5, h6, h7, h8, hO.sl rfl hl hb⟩
/-- xs[lo:] -/
theorem SlR.drop {α : Type} {k : Nat} {R : World → List Value → α → Prop} {A : Option Addr} {n c : Nat} {xs : List α} (h : SlR w k R (.slice A n c) xs) (lo : Nat) (hlo : lo ≤ n) : SlR w k R (.slice (if c = lo then A else A.map (·.add (lo * k))) (n - lo) (c - lo)) (xs.drop lo) := by
  obtain ⟨A', c', h1, h2, h3, h4, h5⟩ := h
  cases h1
  refine ⟨_, _, by rw [List.length_drop], by rw [List.length_drop]; omega, by omega, ?_, ?_⟩
  · intro hn
    have hA : A = none := by
      by_cases hc : c = lo
      · rwa [if_pos hc] at hn
      · rw [if_neg hc] at hn; simpa using hn
    obtain ⟨rfl, rfl⟩ := h4 hA
    simp
  · intro ad ha i x hx
    by_cases hc : c = lo
    · rw [List.getElem?_drop] at hx
      have := (List.getElem?_eq_some_iff.1 hx).1
      omega
    · rw [if_neg hc] at ha
      cases A with
      | none => simp at ha
      | some a0 =>
        simp at ha
        subst ha
        rw [List.getElem?_drop] at hx
        obtain ⟨cs, g1, g2, g3⟩ := h5 a0 rfl (lo + i) x hx
        exact ⟨cs, g1, g2, fun j u hu => by rw [add_add, show lo * k + (i * k + j) = (lo + i) * k + j by rw [Nat.add_mul]; omega]; exact g3 j u hu⟩

/-! ### New lists of texts -/
/-- It reads as xs, and all that is read lies in memory that is not older than w0. -/
def NewSl (w0 w : World) (m : Value) (xs : List ByteArray) : Prop := ∃ fp, Foot (fun w' => Sl w' 1 16 (Flat eS) m xs) fp w ∧ ∀ b, fp b → w0.heap.size ≤ b
theorem NewSl.sl {w0 : World} {m : Value} {xs : List ByteArray} (h : NewSl w0 w m xs) : Sl w 1 16 (Flat eS) m xs := by obtain ⟨fp, h, _⟩ := h; exact h.now
theorem NewSl.nil {w0 : World} : NewSl w0 w (.slice none 0 0) [] := ⟨fun _ => False, ⟨fun _ h => h.elim, fun w' _ => ⟨(Own.nil w' 0 1).slr rfl (by simp), by simp [lim]⟩⟩, fun _ h => h.elim⟩
theorem NewSl.own {w0 : World} {E n : Nat} {m : Value} {xs : List ByteArray} (h : Own w E 1 m n (xs.flatMap eS)) (hn : n = xs.length) (hl : ∀ b ∈ blks m, w0.heap.size ≤ b) (hb : xs.length * 16 ≤ lim) : NewSl w0 w m xs :=
  ⟨_, h.foot.mono fun w' hw => hw.sl hn (by simp [eS]) hb, hl⟩
theorem NewSl.ext {w0 w' : World} {m : Value} {xs : List ByteArray} (h : NewSl w0 w m xs) (e : Ext w w') : NewSl w0 w' m xs := by obtain ⟨fp, h, hl⟩ := h; exact ⟨fp, h.ext e, hl⟩
theorem NewSl.chg {w0 w' : World} {m : Value} {xs : List ByteArray} {D : List Nat} (h : NewSl w0 w m xs) (c : Chg D w w') (hd : ∀ b ∈ D, b < w0.heap.size) : NewSl w0 w' m xs := by
  obtain ⟨fp, h, hl⟩ := h
  exact ⟨fp, h.chg c fun b hb _ hf => by have := hl b hf; have := hd b hb; omega, hl⟩
theorem NewSl.old {w0 w1 : World} {m : Value} {xs : List ByteArray} (h : NewSl w1 w m xs) (e : w0.heap.size ≤ w1.heap.size) : NewSl w0 w m xs := by
  obtain ⟨fp, h, hl⟩ := h
  exact ⟨fp, h, fun b hb => Nat.le_trans e (hl b hb)⟩
end
end Go.Proofs.YtpnmaabhjgiggaaGreatDoor
