/- A list and another that was grown from it: they may share their memory. No program is named here. -/
import Derived.Test.YtnhjohcgnmogaaaDoorNest
set_option linter.unusedVariables false
set_option linter.unusedSimpArgs false
set_option linter.unusedSectionVars false
namespace Go.Proofs.YtnhjohcgnmogaaaDoor
open Go Go.RowKit
section
variable {P : Program} {w w' : World} {E k : Nat} {q g v x : Value} {n0 n m : Nat} {xs0 xs news : List Value}
/-- g has been grown from q (or from what q was grown from): another block, or the same one, of which q is the beginning. -/
def AlP (k : Nat) (q g : Value) (n0 n : Nat) (xs0 xs : List Value) : Prop := (∀ b ∈ blks q, b ∉ blks g) ∨ ∃ b cap, q = .slice (some ⟨b, 0, none⟩) n0 cap ∧ g = .slice (some ⟨b, 0, none⟩) n cap ∧ n0 ≤ n ∧ xs.take (n0 * k) = xs0
/-- Room in the list's own block. -/
theorem run_appRoom {t t' ty bytes : Nat} {z : List Value} {d' : TypeDesc} (ht : P.underlying t = some (.slice E)) (ht' : P.underlying t' = some d') (hd' : ∀ q, d' ≠ .int q) (hE : ElemOk P E k bytes z)
    {b cap : Nat} {cs : List Value} (hB : Blk w b cs E) (h3 : n ≤ cap) (h4 : cap ≤ maxLen) (h5 : cs.length = cap * k) (h6 : xs.length = n * k) (h7 : cs.take (n * k) = xs) (hx : Src w k x m news) (h1 : ∀ u ∈ news, u.oneCell' = true) (hroom : n + m ≤ cap) :
    ∃ w' cs', (Builtin.append_ #[t, t'] ty #[.slice (some ⟨b, 0, none⟩) n cap, x]).run P w = .ok (.slice (some ⟨b, 0, none⟩) (n + m) cap) w' ∧ Blk w' b cs' E ∧ cs'.length = cap * k ∧ cs'.take ((n + m) * k) = xs ++ news ∧ Chg [b] w w' := by
  obtain ⟨hsz, hz0, hby, hzl, hk⟩ := hE
  have hI : (match d' with | .int _ => true | _ => false) = false := by cases d' <;> first | rfl | exact absurd rfl (hd' _)
  obtain ⟨i, hi, hi1⟩ : ∃ i, P.info? E = some i ∧ i.size = k := by
    unfold sizeB at hsz
    cases hq : P.info? E with
    | none => simp [hq] at hsz
    | some i => exact ⟨i, rfl, by simpa [hq] using hsz⟩
  have hlen := hx.len
  have hwr : (xs ++ news).length = (n + m) * k := by rw [List.length_append, h6, hlen, Nat.add_mul]
  have hlo := fun w' => Src.lenOf (P := P) hx w'
  have hcap : n * k + m * k ≤ cap * k := by rw [← Nat.add_mul]; exact Nat.mul_le_mul_right _ hroom
  obtain ⟨w', hr, hb', hch, hsz'⟩ := storeCells_blk P w b E news 0 (n * k) cs hB (by omega) h1
  have f := Src.first (P := P) hx (w' := w) (fun a => rfl)
  refine ⟨w', _, ?_, hb', ?_, ?_, hch⟩
  · simp [Builtin.append_, run_underlying ht, run_underlying ht', hI, sizeOf, typeInfo, hi, hi1, hlo, hroom, f, plain_add, hr]
  · simp only [Nat.add_zero, List.length_append, List.length_take, List.length_drop]
    omega
  · have hx7 : cs.take (n * k + 0) = xs := by simpa using h7
    rw [hx7, ← hwr]
    exact List.take_left
theorem AlP.self (h : Own w E k q n xs) : AlP k q q n n xs xs := by
  rcases h with ⟨rfl, rfl, rfl⟩ | ⟨b, cap, cs, rfl, _, _, _, _, h, _⟩
  · exact .inl fun b hb => by simp [blks] at hb
  · exact .inr ⟨b, cap, rfl, rfl, Nat.le_refl _, by rw [← h, List.take_length]⟩
/-- append, where another list may be the beginning of the same memory. -/
theorem run_appP {t t' ty bytes : Nat} {z : List Value} {d' : TypeDesc} (ht : P.underlying t = some (.slice E)) (ht' : P.underlying t' = some d') (hd' : ∀ q, d' ≠ .int q) (hE : ElemOk P E k bytes z)
    (hq : Own w E k q n0 xs0) (hg : Own w E k g n xs) (hal : AlP k q g n0 n xs0 xs) (hx : Src w k x m news) (h1 : ∀ u ∈ news, u.oneCell' = true) (hb : (n + m) * bytes ≤ 140737488355328) (h63 : n + m ≤ maxLen) :
    ∃ v' w', (Builtin.append_ #[t, t'] ty #[g, x]).run P w = .ok v' w' ∧ Own w' E k q n0 xs0 ∧ Own w' E k v' (n + m) (xs ++ news) ∧ AlP k q v' n0 (n + m) xs0 (xs ++ news) ∧ Chg (blks g) w w' ∧ (blks v' = blks g ∨ ∃ b, blks v' = [b] ∧ w.heap.size ≤ b) := by
  have hlen := hx.len
  rcases id hg with ⟨rfl, rfl, rfl⟩ | ⟨b, cap, cs, rfl, h2, h3, h4, h5, h6, h7⟩
  · -- a nil list has no memory to share
    obtain ⟨v', w', a1, a2, a3, a4, a5⟩ := run_append (ty := ty) ht ht' hd' hE hg hx h1 hb h63
    have hq' := hq.chg a3 fun b _ => by simp [blks]
    refine ⟨v', w', a1, hq', a2, .inl fun b hb hv => ?_, a3, a4⟩
    rcases a4 with a4 | ⟨c, hc, hlt⟩
    · rw [a4] at hv; simp [blks] at hv
    · rw [hc, List.mem_singleton] at hv
      have := hq.lt b hb; omega
  · by_cases hroom : n + m ≤ cap
    · obtain ⟨w', cs', r1, r2, r3, r4, r5⟩ := run_appRoom (ty := ty) ht ht' hd' hE h2 h3 h4 h5 h6 h7 hx h1 hroom
      have hwr : (xs ++ news).length = (n + m) * k := by rw [List.length_append, h6, hlen, Nat.add_mul]
      have hv : Own w' E k (.slice (some ⟨b, 0, none⟩) (n + m) cap) (n + m) (xs ++ news) := .inr ⟨b, cap, cs', rfl, r2, hroom, h4, r3, hwr, r4⟩
      rcases hal with hal | ⟨b1, cap1, rfl, hg1, hn, ht0⟩
      · exact ⟨_, w', r1, hq.chg r5 (fun c hc => by simpa [blks] using hal c hc), hv, .inl (by simpa [blks] using hal), by simpa [blks] using r5, .inl (by simp [blks])⟩
      · cases hg1
        have hle := Nat.mul_le_mul_right k hn
        have hle2 : (n + m) * k = n * k + m * k := Nat.add_mul ..
        have ht1 : (xs ++ news).take (n0 * k) = xs0 := by rw [List.take_append_of_le_length (by omega)]; exact ht0
        have hq' : Own w' E k (.slice (some ⟨b, 0, none⟩) n0 cap) n0 xs0 := by
          refine .inr ⟨b, cap, cs', rfl, r2, by omega, h4, r3, hq.len, ?_⟩
          rw [← ht1, ← r4, List.take_take, Nat.min_eq_left (by omega)]
        exact ⟨_, w', r1, hq', hv, .inr ⟨b, cap, rfl, rfl, by omega, ht1⟩, by simpa [blks] using r5, .inl (by simp [blks])⟩
    · obtain ⟨v', w', a1, a2, a3, c, a4, a5⟩ := run_append_full (ty := ty) ht ht' hd' hE (hv := hg.src) hx (by omega) hb h63
      refine ⟨v', w', a1, hq.ext a3, a2, .inl fun c' hb hv => ?_, Chg.of_ext a3, .inr ⟨c, a4, a5⟩⟩
      rw [a4, List.mem_singleton] at hv
      have := hq.lt c' hb; omega
end
/-- Two lists of the call's own that may share their memory. -/
def pairR (E k : Nat) (q : Value) (n0 : Nat) (xs0 : List Value) (g : Value) (n : Nat) (xs : List Value) : Rs where
  P w fp := Own w E k q n0 xs0 ∧ Own w E k g n xs ∧ AlP k q g n0 n xs0 xs ∧ ∀ c, fp c ↔ c ∈ blks q ∨ c ∈ blks g
  lt h c hc := ((h.2.2.2 c).1 hc).elim (h.1.lt c) (h.2.1.lt c)
  loc h hw := ⟨h.1.foot.all _ fun c hc => hw c ((h.2.2.2 c).2 (.inl hc)), h.2.1.foot.all _ fun c hc => hw c ((h.2.2.2 c).2 (.inr hc)), h.2.2.1, h.2.2.2⟩
section
variable {P : Program} {ops : Array Oper} {Q : Exit → Act → World → Prop} {rest : List Oper} {a : Act} {nt : Nat} {l : List (Nat × Option Value)} {fp : Nat → Prop} {w0 w : World} {rs : List Rs} {E k : Nat} {q g u : Value} {n0 n m : Nat} {xs0 xs news : List Value}
theorem St.pair0 (h : St fp w0 w (ownR E k q n xs :: rs)) : St fp w0 w (pairR E k q n xs q n xs :: rs) :=
  h.conv fun f ⟨h1, h2⟩ => ⟨f, ⟨h1, h1, AlP.self h1, fun c => by rw [h2, or_self]⟩, fun b hb => hb⟩
theorem St.pairQ (h : St fp w0 w (pairR E k q n0 xs0 g n xs :: rs)) : St fp w0 w (ownR E k q n0 xs0 :: rs) :=
  h.conv fun f ⟨h1, _, _, h4⟩ => ⟨fun c => c ∈ blks q, ⟨h1, fun c => Iff.rfl⟩, fun b hb => (h4 b).2 (.inl hb)⟩
theorem St.pairG (h : St fp w0 w (pairR E k q n0 xs0 g n xs :: rs)) : St fp w0 w (ownR E k g n xs :: rs) :=
  h.conv fun f ⟨_, h2, _, h4⟩ => ⟨fun c => c ∈ blks g, ⟨h2, fun c => Iff.rfl⟩, fun b hb => (h4 b).2 (.inr hb)⟩
theorem St.pairOwn (i : Nat) (h : St fp w0 w rs) (hi : rs[i]? = some (pairR E k q n0 xs0 g n xs)) : Own w E k q n0 xs0 ∧ Own w E k g n xs := by
  obtain ⟨f, h1, h2, _⟩ := h.get i hi; exact ⟨h1, h2⟩
theorem St.setPair {w' : World} {v' : Value} {n' : Nat} {xs' : List Value} (h : St fp w0 w (pairR E k q n0 xs0 g n xs :: rs)) (hq : Own w' E k q n0 xs0) (hv : Own w' E k v' n' xs') (hal : AlP k q v' n0 n' xs0 xs') (hc : Chg (blks g) w w') (hb : blks v' = blks g ∨ ∃ b, blks v' = [b] ∧ w.heap.size ≤ b) : St fp w0 w' (pairR E k q n0 xs0 v' n' xs' :: rs) :=
  h.upd fun f ⟨_, _, _, h4⟩ => ⟨ChgP.of_chg hc fun b hb => (h4 b).2 (.inr hb), fun c => c ∈ blks q ∨ c ∈ blks v', ⟨hq, hv, hal, fun c => Iff.rfl⟩, fun b hb' => by
    rcases hb' with hb' | hb'
    · exact .inl ((h4 b).2 (.inl hb'))
    · rcases hb with hb | ⟨c, hc', hlt⟩
      · rw [hb] at hb'; exact .inl ((h4 b).2 (.inr hb'))
      · rw [hc', List.mem_singleton] at hb'; subst hb'; exact .inr hlt⟩
/-- append onto a list, while the list that it was grown from is kept. -/
theorem n_appP {x y : Operand} {t t' bytes d : Nat} {ty : TypeId} {pos : String} {af : Array Edge} {z : List Value} {d' : TypeDesc} (hS : St fp w0 w (pairR E k q n0 xs0 g n xs :: rs)) (H : Has a nt l) (ex : lo l x = some g) (ey : lo l y = some u)
    (ht : P.underlying t = some (.slice E)) (ht' : P.underlying t' = some d') (hd' : ∀ q, d' ≠ .int q) (hE : ElemOk P E k bytes z) (hx : Src w k u m news) (h1 : ∀ u ∈ news, u.oneCell' = true)
    (hb : (n + m) * bytes ≤ 140737488355328) (h63 : n + m ≤ maxLen) (hd : Nat.blt d nt = true)
    (h : ∀ v' w', St fp w0 w' (pairR E k q n0 xs0 v' (n + m) (xs ++ news) :: rs) → ∀ a', Has a' nt ((d, some v') :: l) → wpList P ops Q rest a' w') :
    wpList P ops Q (⟨some d, .call { callee := .builtin .append, args := #[x, y], argTypes := #[t, t'] }, ty, pos, af, none⟩ :: rest) a w := by
  obtain ⟨f, h1', h2', h3', _⟩ := hS.get 0 rfl
  obtain ⟨v', w', hr, k1, k2, k3, k4, k5⟩ := run_appP (ty := ty) ht ht' hd' hE h1' h2' h3' hx h1 hb h63
  exact n_run (w' := w') H (fun ρ hρ => by simp [execOp, resolve, invoke, builtin, hρ x _ ex, hρ y _ ey, hr]) hd (h v' w' (hS.setPair k1 k2 k3 k4 k5))
end
end Go.Proofs.YtnhjohcgnmogaaaDoor
