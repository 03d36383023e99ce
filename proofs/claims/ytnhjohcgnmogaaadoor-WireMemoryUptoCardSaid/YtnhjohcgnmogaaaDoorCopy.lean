/- Copies of lists and states: what is owned, what is apart. No program is named here. -/
import Derived.Test.YtnhjohcgnmogaaaDoorModel
set_option linter.unusedVariables false
set_option linter.unusedSimpArgs false
set_option linter.unusedSectionVars false
namespace Go.Proofs.YtnhjohcgnmogaaaDoor
open Go Go.RowKit

theorem flat_one {α : Type} {enc : α → List Value} (h : ∀ x, ∀ u ∈ enc x, u.oneCell' = true) (xs : List α) : ∀ u ∈ xs.flatMap enc, u.oneCell' = true := by
  intro u hu
  obtain ⟨x, _, hx⟩ := List.mem_flatMap.1 hu
  exact h x u hx
theorem eI_one (x : Int) : ∀ u ∈ eI x, u.oneCell' = true := by simp [eI]
theorem eF_one (x : Bool) : ∀ u ∈ eF x, u.oneCell' = true := by simp [eF]
theorem eS_one (x : ByteArray) : ∀ u ∈ eS x, u.oneCell' = true := by simp [eS]
theorem eTimer_one (x : TimerM) : ∀ u ∈ eTimer x, u.oneCell' = true := by simp [eTimer]
theorem eProc_one (x : ProcM) : ∀ u ∈ eProc x, u.oneCell' = true := by
  intro u hu
  simp only [eProc, List.mem_append, List.mem_map] at hu
  rcases hu with ⟨_, _, rfl⟩ | hu
  · rfl
  · simp at hu; rcases hu with rfl | rfl | rfl | rfl | rfl <;> rfl
theorem ePage_one' (p : PageM) : ∀ u ∈ ePage p, u.oneCell' = true := by
  intro u hu
  simp only [ePage, List.mem_cons, List.mem_map] at hu
  rcases hu with rfl | rfl | ⟨_, _, rfl⟩ <;> rfl

theorem fresh_of {B : Nat} {v v' : Value} {w1 : World} (hb : blks v' = blks v ∨ ∃ b, blks v' = [b] ∧ w1.heap.size ≤ b) (h0 : ∀ b ∈ blks v, B ≤ b) (hs : B ≤ w1.heap.size) : ∀ b ∈ blks v', B ≤ b := by
  rcases hb with hb | ⟨b, hb, hl⟩
  · rw [hb]; exact h0
  · rw [hb]; intro c hc; rw [List.mem_singleton.1 hc]; omega

/-! ### Ports: cells with slices in them -/
def portCells : List Value → List PortM → List Value
  | q :: qs, p :: ps => q :: .int .i64 p.age :: portCells qs ps
  | _, _ => []
def PortsIn (w : World) : List Value → List PortM → Prop
  | [], [] => True
  | q :: qs, p :: ps => Sl w 1 16 (Flat eS) q p.msgs ∧ PortsIn w qs ps
  | _, _ => False
theorem PortsIn.len {w : World} : ∀ {qs : List Value} {ps : List PortM}, PortsIn w qs ps → qs.length = ps.length
  | [], [], _ => rfl
  | [], _ :: _, h => by simp [PortsIn] at h
  | _ :: _, [], h => by simp [PortsIn] at h
  | q :: qs, p :: ps, h => by simp [h.2.len]
theorem PortsIn.at {w : World} : ∀ {qs : List Value} {ps : List PortM} {i : Nat} {p : PortM}, PortsIn w qs ps → ps[i]? = some p → ∃ q, qs[i]? = some q ∧ Sl w 1 16 (Flat eS) q p.msgs
  | [], [], _, _, _, h => by simp at h
  | [], _ :: _, _, _, h, _ => by simp [PortsIn] at h
  | _ :: _, [], _, _, h, _ => by simp [PortsIn] at h
  | q :: qs, p :: ps, 0, x, h, hx => by
    simp only [List.getElem?_cons_zero, Option.some.injEq] at hx
    subst hx
    exact ⟨q, rfl, h.1⟩
  | q :: qs, p :: ps, i + 1, x, h, hx => by
    simp only [List.getElem?_cons_succ] at hx ⊢
    exact h.2.at hx
theorem PortsIn.ext {w w' : World} (e : Ext w w') : ∀ {qs : List Value} {ps : List PortM}, PortsIn w qs ps → PortsIn w' qs ps
  | [], [], _ => trivial
  | [], _ :: _, h => by simp [PortsIn] at h
  | _ :: _, [], h => by simp [PortsIn] at h
  | q :: qs, p :: ps, h => ⟨h.1.ext (Flat.mono _) e, h.2.ext e⟩
theorem PortsIn.agr {w w' : World} (e : Agr w w') : ∀ {qs : List Value} {ps : List PortM}, PortsIn w qs ps → PortsIn w' qs ps
  | [], [], _ => trivial
  | [], _ :: _, h => by simp [PortsIn] at h
  | _ :: _, [], h => by simp [PortsIn] at h
  | q :: qs, p :: ps, h => ⟨h.1.agr (Flat.mono _) e, h.2.agr e⟩
theorem build_port {v : Value} {a : Int} (h : v.oneCell' = true) : Instr.fill (fun i => (#[(0, 1), (1, 1)] : Array (Nat × Nat))[i]?) [.slice none 0 0, .int .i64 0].toArray [(0, v), (1, .int .i64 a)] = some [v, .int .i64 a].toArray := by
  cases v <;> first | rfl | (simp [Value.oneCell'] at h)
/-- What came in is read in old memory. -/
theorem PortsIn.foot {w : World} {qs : List Value} {ps : List PortM} (h : PortsIn w qs ps) : Foot (fun w' => PortsIn w' qs ps) (fun b => b < w.heap.size) w := ⟨fun _ hb => hb, fun w' hw => h.agr hw⟩
theorem Foot.ext' {F : World → Prop} {fp : Nat → Prop} {w w' : World} (h : Foot F fp w) (e : Ext w w') : Foot F fp w' := h.ext e
theorem PortsIn.set {w : World} {q' : Value} : ∀ {qs : List Value} {ps : List PortM} {i : Nat} {p : PortM}, PortsIn w qs ps → ps[i]? = some p → Sl w 1 16 (Flat eS) q' p.msgs → PortsIn w (qs.set i q') ps
  | [], [], _, _, _, h, _ => by simp at h
  | [], _ :: _, _, _, h, _, _ => by simp [PortsIn] at h
  | _ :: _, [], _, _, h, _, _ => by simp [PortsIn] at h
  | q :: qs, p :: ps, 0, x, h, hx, hq => by
    simp only [List.getElem?_cons_zero, Option.some.injEq] at hx
    subst hx
    exact ⟨hq, h.2⟩
  | q :: qs, p :: ps, i + 1, x, h, hx, hq => by
    simp only [List.getElem?_cons_succ] at hx
    exact ⟨h.1, h.2.set hx hq⟩
theorem portCells_len : ∀ {qs : List Value} {ps : List PortM}, qs.length = ps.length → (portCells qs ps).length = ps.length * 2
  | [], [], _ => rfl
  | [], _ :: _, h => by simp at h
  | _ :: _, [], h => by simp at h
  | q :: qs, p :: ps, h => by
    simp only [List.length_cons, Nat.add_right_cancel_iff] at h
    simp only [portCells, List.length_cons, portCells_len h]; omega
theorem portCells_at0 : ∀ {qs : List Value} {ps : List PortM} {i : Nat} {q : Value}, qs.length = ps.length → qs[i]? = some q → (portCells qs ps)[i * 2]? = some q
  | [], _, _, _, _, h => by simp at h
  | _ :: _, [], _, _, h, _ => by simp at h
  | q :: qs, p :: ps, 0, x, _, hx => by simpa [portCells] using hx
  | q :: qs, p :: ps, i + 1, x, h, hx => by
    simp only [List.length_cons, Nat.add_right_cancel_iff] at h
    simp only [List.getElem?_cons_succ] at hx
    rw [show (i + 1) * 2 = i * 2 + 1 + 1 by omega]
    simp only [portCells, List.getElem?_cons_succ]
    exact portCells_at0 h hx
theorem portCells_at1 : ∀ {qs : List Value} {ps : List PortM} {i : Nat} {p : PortM}, qs.length = ps.length → ps[i]? = some p → (portCells qs ps)[i * 2 + 1]? = some (.int .i64 p.age)
  | _, [], _, _, _, h => by simp at h
  | [], _ :: _, _, _, h, _ => by simp at h
  | q :: qs, p :: ps, 0, x, _, hx => by simp at hx; simp [portCells, hx]
  | q :: qs, p :: ps, i + 1, x, h, hx => by
    simp only [List.length_cons, Nat.add_right_cancel_iff] at h
    simp only [List.getElem?_cons_succ] at hx
    rw [show (i + 1) * 2 + 1 = (i * 2 + 1) + 1 + 1 by omega]
    simp only [portCells, List.getElem?_cons_succ]
    exact portCells_at1 h hx
theorem portCells_set : ∀ {qs : List Value} {ps : List PortM} {i : Nat} {q' : Value}, qs.length = ps.length → (portCells qs ps).set (i * 2) q' = portCells (qs.set i q') ps
  | [], [], _, _, _ => by simp [portCells]
  | [], _ :: _, _, _, h => by simp at h
  | _ :: _, [], _, _, h => by simp at h
  | q :: qs, p :: ps, 0, _, _ => by simp [portCells]
  | q :: qs, p :: ps, i + 1, q', h => by
    simp only [List.length_cons, Nat.add_right_cancel_iff] at h
    rw [show (i + 1) * 2 = i * 2 + 1 + 1 by omega]
    simp only [portCells, List.set_cons_succ, portCells_set h]
theorem portCells_snoc : ∀ {qs : List Value} {ps : List PortM} {q : Value} {p : PortM}, qs.length = ps.length → portCells (qs ++ [q]) (ps ++ [p]) = portCells qs ps ++ [q, .int .i64 p.age]
  | [], [], _, _, _ => rfl
  | [], _ :: _, _, _, h => by simp at h
  | _ :: _, [], _, _, h => by simp at h
  | q :: qs, p :: ps, q', p', h => by
    simp only [List.length_cons, Nat.add_right_cancel_iff] at h
    simp only [List.cons_append, portCells, portCells_snoc h]
theorem PortsIn.snoc {w : World} : ∀ {qs : List Value} {ps : List PortM} {q : Value} {p : PortM}, PortsIn w qs ps → Sl w 1 16 (Flat eS) q p.msgs → PortsIn w (qs ++ [q]) (ps ++ [p])
  | [], [], _, _, _, h => ⟨h, trivial⟩
  | [], _ :: _, _, _, h, _ => by simp [PortsIn] at h
  | _ :: _, [], _, _, h, _ => by simp [PortsIn] at h
  | q :: qs, p :: ps, q', p', h, k => ⟨h.1, h.2.snoc k⟩
theorem portCells_one {w : World} : ∀ {qs : List Value} {ps : List PortM}, PortsIn w qs ps → ∀ u ∈ portCells qs ps, u.oneCell' = true
  | [], [], _, u, hu => by simp [portCells] at hu
  | [], _ :: _, h, _, _ => by simp [PortsIn] at h
  | _ :: _, [], h, _, _ => by simp [PortsIn] at h
  | q :: qs, p :: ps, h, u, hu => by
    simp only [portCells, List.mem_cons] at hu
    rcases hu with rfl | rfl | hu
    · exact h.1.r.one
    · rfl
    · exact portCells_one h.2 u hu

section
variable {w : World}
/-- The cells of a list of ports, as a source of append. -/
theorem SlR.srcP {v : Value} {ps : List PortM} (h : SlR w 2 RPort v ps) : ∃ qs, PortsIn w qs ps ∧ Src w 2 v ps.length (portCells qs ps) := by
  obtain ⟨A, c, rfl, h2, h3, h4, h5⟩ := h
  cases A with
  | none =>
    obtain ⟨rfl, rfl⟩ := h4 rfl
    exact ⟨[], trivial, .inl ⟨0, rfl, rfl, rfl⟩⟩
  | some ad =>
    have h5' := h5 ad rfl
    clear h5 h4 h2 h3
    have key : ∀ (ys : List PortM) (o : Nat), (∀ i p, ys[i]? = some p → ∃ cs : List Value, cs.length = 2 ∧ RPort w cs p ∧ ∀ j u, cs[j]? = some u → w.cell? (ad.add (o + (i * 2 + j))) = some u) →
        ∃ qs, PortsIn w qs ys ∧ ∀ j u, (portCells qs ys)[j]? = some u → w.cell? (ad.add (o + j)) = some u := by
      intro ys
      induction ys with
      | nil => intro o _; exact ⟨[], trivial, fun j u hu => by simp [portCells] at hu⟩
      | cons y ys ih =>
        intro o hc
        obtain ⟨cs, _, ⟨q, rfl, hq⟩, g3⟩ := hc 0 y rfl
        obtain ⟨qs, h1, h2⟩ := ih (o + 2) (fun i p hp => by
          obtain ⟨cs, g1, g2, g3⟩ := hc (i + 1) p hp
          exact ⟨cs, g1, g2, fun j u hu => by have := g3 j u hu; rwa [show o + ((i + 1) * 2 + j) = o + 2 + (i * 2 + j) by omega] at this⟩)
        refine ⟨q :: qs, ⟨hq, h1⟩, fun j u hu => ?_⟩
        match j, hu with
        | 0, hu => simpa using g3 0 u (by simpa [portCells] using hu)
        | 1, hu => simpa using g3 1 u (by simpa [portCells] using hu)
        | j + 2, hu =>
          simp only [portCells, List.getElem?_cons_succ] at hu
          have := h2 j u hu
          rwa [show o + 2 + j = o + (j + 2) by omega] at this
    obtain ⟨qs, g1, g2⟩ := key ps 0 (fun i p hp => by simpa using h5' i p hp)
    exact ⟨qs, g1, .inr (.inl ⟨ad, c, rfl, portCells_len g1.len, fun j u hu => by simpa using g2 j u hu⟩)⟩

/-- Owned cells of ports read as ports. -/
theorem Own.slrP {E : Nat} {v : Value} {n : Nat} {qs : List Value} {ps : List PortM} (h : Own w E 2 v n (portCells qs ps)) (hn : n = ps.length) (hp : PortsIn w qs ps) : SlR w 2 RPort v ps := by
  subst hn
  rcases h with ⟨rfl, h0, h1⟩ | ⟨b, cap, cs, rfl, h1, h2, h3, h4, h5, h6⟩
  · have : ps = [] := List.eq_nil_of_length_eq_zero h0
    subst this
    exact ⟨none, 0, rfl, Nat.le_refl _, Nat.zero_le _, fun _ => ⟨rfl, rfl⟩, by simp⟩
  · refine ⟨_, cap, rfl, h2, h3, by simp, fun ad ha i p hp' => ?_⟩
    cases ha
    obtain ⟨q, hq, hs⟩ := hp.at hp'
    refine ⟨[q, .int .i64 p.age], rfl, ⟨q, rfl, hs⟩, fun j u hu => ?_⟩
    rw [plain_add, h1.cell]
    have hcs : ∀ (m : Nat) (x : Value), (portCells qs ps)[m]? = some x → cs[m]? = some x := fun m x hx => by
      rw [← h6, List.getElem?_take] at hx
      split at hx
      · exact hx
      · cases hx
    match j, hu with
    | 0, hu => exact hcs _ _ (by rw [Nat.add_zero]; have := portCells_at0 hp.len hq; simp at hu; rw [← hu]; exact this)
    | 1, hu => exact hcs _ _ (by have := portCells_at1 hp.len hp'; simp at hu; rw [← hu]; exact this)
    | j + 2, hu => simp at hu
theorem Own.sl {α : Type} {enc : α → List Value} {E k bytes : Nat} {v : Value} {n : Nat} {xs : List α} (h : Own w E k v n (xs.flatMap enc)) (hn : n = xs.length) (hk : ∀ x ∈ xs, (enc x).length = k) (hb : xs.length * bytes ≤ lim) : Sl w k bytes (Flat enc) v xs := ⟨h.slr hn hk, hb⟩
theorem Own.slP {E : Nat} {v : Value} {n : Nat} {qs : List Value} {ps : List PortM} (h : Own w E 2 v n (portCells qs ps)) (hn : n = ps.length) (hp : PortsIn w qs ps) (hb : ps.length * 32 ≤ lim) : Sl w 2 32 RPort v ps := ⟨h.slrP hn hp, hb⟩

/-- A store into an owned slice's cell. -/
theorem Own.blk {E k b : Nat} {n cap : Nat} {xs : List Value} (h : Own w E k (.slice (some ⟨b, 0, none⟩) n cap) n xs) : ∃ cs, Blk w b cs E ∧ n ≤ cap ∧ cap ≤ maxLen ∧ cs.length = cap * k ∧ xs.length = n * k ∧ cs.take (n * k) = xs := by
  rcases h with ⟨h, _⟩ | ⟨b', cap', cs, h1, h2, h3, h4, h5, h6, h7⟩
  · cases h
  · cases h1; exact ⟨cs, h2, h3, h4, h5, h6, h7⟩
theorem Own.ofBlk' {E k b : Nat} {n cap : Nat} {cs xs : List Value} (h : Blk w b cs E) (h1 : n ≤ cap) (h2 : cap ≤ maxLen) (h3 : cs.length = cap * k) (h4 : cs.take (n * k) = xs) (h5 : xs.length = n * k) : Own w E k (.slice (some ⟨b, 0, none⟩) n cap) n xs := .inr ⟨b, cap, cs, rfl, h, h1, h2, h3, h5, h4⟩
theorem Own.sm {E k : Nat} {v : Value} {n : Nat} {xs : List Value} (h : Own w E k v n xs) (hn : 0 < n) : ∃ b cap, v = .slice (some ⟨b, 0, none⟩) n cap := by
  rcases h with ⟨_, h, _⟩ | ⟨b, cap, cs, h, _⟩
  · omega
  · exact ⟨b, cap, h⟩
theorem take_set' {cs xs : List Value} {o m : Nat} {v : Value} (h : cs.take m = xs) : (cs.set o v).take m = xs.set o v := by rw [← h, List.take_set]

/-! ### A state of the call's own -/
def RestIn (w : World) (u3 u4 u5 u6 u7 u8 : Value) (s : StateM') : Prop :=
  Sl w 21 104 (Flat eProc) u3 s.procs ∧ Sl w 1 8 (Flat eI) u4 s.ready ∧ Sl w 2 16 (Flat eTimer) u5 s.timers ∧ Sl w 1 1 (Flat eF) u6 s.up ∧ Sl w 1 8 (Flat eI) u7 s.sems ∧ Sl w 2 32 RPort u8 s.ports
/-- A state whose pages may be written, with memory from B on. -/
def NewState (E9 B : Nat) (w : World) (v : Value) (s : StateM') : Prop :=
  ∃ u3 u4 u5 u6 u7 u8 u9 fp, v = .agg #[.int .i64 s.id, .int .i64 s.frame, .int .i64 s.epoch, u3, u4, u5, u6, u7, u8, u9] ∧ Foot (fun w' => RestIn w' u3 u4 u5 u6 u7 u8 s) fp w ∧
    Own w E9 66 u9 s.pages.length (s.pages.flatMap ePage) ∧ (∀ b ∈ blks u9, B ≤ b ∧ ¬ fp b) ∧ (∀ x ∈ s.pages, (ePage x).length = 66) ∧ s.pages.length * 80 ≤ lim
theorem NewState.is {E9 B : Nat} {v : Value} {s : StateM'} (h : NewState E9 B w v s) : IsState w v s := by
  obtain ⟨u3, u4, u5, u6, u7, u8, u9, fp, rfl, hf, hO, hn, hl, hb⟩ := h
  obtain ⟨h3, h4, h5, h6, h7, h8⟩ := hf.now
  exact ⟨u3, u4, u5, u6, u7, u8, u9, rfl, h3, h4, h5, h6, h7, h8, hO.sl rfl hl hb⟩
theorem q_indexAddr0 {P : Program} {L : Operand → Option Value} {C : World → Prop} {x y : Operand} {T e k b : Nat} {n c : Nat} {q : IntKind} {i : Nat} (ht : P.underlying T = some (.slice e)) (hk : sizeB P e = some k) (ex : L x = some (.slice (some ⟨b, 0, none⟩) n c)) (ey : L y = some (.int q (i : Nat))) (hn : i < n) :
    Q1 P L (.indexAddr T x y) C (.pointer (some ⟨b, i * k, none⟩)) := by
  have := q_indexAddr (C := C) ht hk ex ey (by omega) (by omega)
  rw [plain_add] at this
  exact this

/-- xs[lo:] -/
theorem SlR.drop {α : Type} {k : Nat} {R : World → List Value → α → Prop} {A : Option Addr} {n c : Nat} {xs : List α} (h : SlR w k R (.slice A n c) xs) (lo : Nat) (hlo : lo ≤ n) : SlR w k R (.slice (if c = lo then A else A.map (·.add (lo * k))) (n - lo) (c - lo)) (xs.drop lo) := by
  obtain ⟨A', c', h1, h2, h3, h4, h5⟩ := h
  cases h1
  refine ⟨_, _, by rw [List.length_drop], by rw [List.length_drop]; omega, by omega, ?_, ?_⟩
  · intro hn
    have hA : A = none := by
      by_cases hc : c = lo
      · rwa [if_pos hc] at hn
      · rw [if_neg hc] at hn; simpa using hn
    obtain ⟨rfl, rfl⟩ := h4 hA
    simp
  · intro ad ha i x hx
    by_cases hc : c = lo
    · rw [List.getElem?_drop] at hx
      have := (List.getElem?_eq_some_iff.1 hx).1
      omega
    · rw [if_neg hc] at ha
      cases A with
      | none => simp at ha
      | some a0 =>
        simp at ha
        subst ha
        rw [List.getElem?_drop] at hx
        obtain ⟨cs, g1, g2, g3⟩ := h5 a0 rfl (lo + i) x hx
        exact ⟨cs, g1, g2, fun j u hu => by rw [add_add, show lo * k + (i * k + j) = (lo + i) * k + j by rw [Nat.add_mul]; omega]; exact g3 j u hu⟩

/-! ### New lists of texts -/
/-- It reads as xs, and all that is read lies in memory that is not older than w0. -/
def NewSl (w0 w : World) (m : Value) (xs : List ByteArray) : Prop := ∃ fp, Foot (fun w' => Sl w' 1 16 (Flat eS) m xs) fp w ∧ ∀ b, fp b → w0.heap.size ≤ b
theorem NewSl.sl {w0 : World} {m : Value} {xs : List ByteArray} (h : NewSl w0 w m xs) : Sl w 1 16 (Flat eS) m xs := by obtain ⟨fp, h, _⟩ := h; exact h.now
theorem NewSl.nil {w0 : World} : NewSl w0 w (.slice none 0 0) [] := ⟨fun _ => False, ⟨fun _ h => h.elim, fun w' _ => ⟨(Own.nil w' 0 1).slr rfl (by simp), by simp [lim]⟩⟩, fun _ h => h.elim⟩
theorem NewSl.own {w0 : World} {E n : Nat} {m : Value} {xs : List ByteArray} (h : Own w E 1 m n (xs.flatMap eS)) (hn : n = xs.length) (hl : ∀ b ∈ blks m, w0.heap.size ≤ b) (hb : xs.length * 16 ≤ lim) : NewSl w0 w m xs :=
  ⟨_, h.foot.mono fun w' hw => hw.sl hn (by simp [eS]) hb, hl⟩
theorem NewSl.ext {w0 w' : World} {m : Value} {xs : List ByteArray} (h : NewSl w0 w m xs) (e : Ext w w') : NewSl w0 w' m xs := by obtain ⟨fp, h, hl⟩ := h; exact ⟨fp, h.ext e, hl⟩
theorem NewSl.chg {w0 w' : World} {m : Value} {xs : List ByteArray} {D : List Nat} (h : NewSl w0 w m xs) (c : Chg D w w') (hd : ∀ b ∈ D, b < w0.heap.size) : NewSl w0 w' m xs := by
  obtain ⟨fp, h, hl⟩ := h
  exact ⟨fp, h.chg c fun b hb _ hf => by have := hl b hf; have := hd b hb; omega, hl⟩
theorem NewSl.old {w0 w1 : World} {m : Value} {xs : List ByteArray} (h : NewSl w1 w m xs) (e : w0.heap.size ≤ w1.heap.size) : NewSl w0 w m xs := by
  obtain ⟨fp, h, hl⟩ := h
  exact ⟨fp, h, fun b hb => Nat.le_trans e (hl b hb)⟩
end
end Go.Proofs.YtnhjohcgnmogaaaDoor
