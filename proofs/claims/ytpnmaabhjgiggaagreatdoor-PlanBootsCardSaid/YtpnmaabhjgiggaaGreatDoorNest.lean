/- Lists of the call's own whose elements hold lists of the call's own. No program is named here. -/
import Derived.Test.YtpnmaabhjgiggaaGreatDoorDeep
set_option linter.unusedVariables false
set_option linter.unusedSimpArgs false
set_option linter.unusedSectionVars false
namespace Go.Proofs.YtpnmaabhjgiggaaGreatDoor
open Go Go.RowKit

section
variable {fp : Nat → Prop} {w0 w w' : World} {rs rows : List Rs} {r : Rs} {i : Nat}
end
section
variable {β : Type}
end
section
variable {α : Type} {El : List Value → α → Rs} {R : World → List Value → α → Prop} {k : Nat}
variable {fp : Nat → Prop} {w0 w w' : World} {rs : List Rs} {T i : Nat} {v : Value} {xs : List α} {x x' : α} {css : List (List Value)} {cs cs' : List Value}
end
section
variable {α : Type} {e : α → List Value} {E k T : Nat} {fp : Nat → Prop} {w0 w w' : World} {rs : List Rs} {v u u' : Value} {xss : List (List α)} {xs ys : List α} {css : List (List Value)} {i : Nat}
end
section
variable {P : Program} {ops : Array Oper} {Q : Exit → Act → World → Prop} {rest : List Oper} {a : Act} {n : Nat} {l : List (Nat × Option Value)} {w : World}
  {ty : TypeId} {pos : String} {af : Array Edge} {d : Nat} {v u : Value}
variable {E k c i : Nat} {A : Option Addr} {ad : Addr} {xs : List Value} {x y : Operand} {t m n0 : Nat}
end
section
variable {P : Program} {ops : Array Oper} {Q : Exit → Act → World → Prop} {a : Act} {n : Nat} {l : List (Nat × Option Value)} {w : World} {k0 fuel h0 : Nat} {listed : Array Bool} {B : List Nat}
  {ty : TypeId} {pos : String} {af : Array Edge} {d : Nat} {v u : Value}
variable {E k c i : Nat} {A : Option Addr} {ad : Addr} {xs : List Value} {x y : Operand} {t m n0 : Nat}
end
/-! ### Regions that draw their order and write what is the call's own: all blocks below h0 but the old ones (below m) and ps -/
def kB (m : Nat) (ps : List Nat) (h0 : Nat) : List Nat := (List.range h0).filter fun k => decide (m ≤ k ∧ k ∉ ps)
theorem mem_kB {m h0 b : Nat} {ps : List Nat} (h1 : b < h0) (h2 : m ≤ b) (h3 : b ∉ ps) : b ∈ kB m ps h0 := by
  simp [kB, h1, h2, h3]
theorem kB_old {m h0 : Nat} {ps : List Nat} : ∀ b ∈ kB m ps h0, m ≤ b := by
  intro b hb
  simp [kB] at hb
  exact hb.2.1
theorem notin_nil {b : Nat} : b ∉ ([] : List Nat) := by simp
theorem notin_cons {b c : Nat} {ps : List Nat} (h : b ≠ c) (h2 : b ∉ ps) : b ∉ c :: ps := by simp [h, h2]
section
variable {fp : Nat → Prop} {w0 w : World} {rs : List Rs} {i j b E k n E2 k2 n2 T : Nat} {v v2 : Value} {xs xs2 cs : List Value}
end
section
variable {P : Program} {t : TypeId} {w : World} {ad : Addr} {v : Value} {B : List Nat} {h0 o n c b : Nat} {A : Option Addr} {u : Value} {cs : List Value} {T : TypeId}
end
section
variable {P : Program} {ops : Array Oper} {Q : Exit → Act → World → Prop} {rest : List Oper} {a : Act} {n : Nat} {l : List (Nat × Option Value)} {w : World}
  {ty : TypeId} {pos : String} {af : Array Edge} {d : Nat} {v u r : Value}
variable {α : Type} {e : α → List Value} {E E2 k2 bytes : Nat} {z : List Value} {xss : List (List α)} {ys : List α} {fp : Nat → Prop} {w0 : World} {rs : List Rs}
end
section
variable {P : Program} {ops : Array Oper} {Q : Exit → Act → World → Prop} {a : Act} {n : Nat} {l : List (Nat × Option Value)} {w : World} {k0 fuel h0 : Nat} {listed : Array Bool} {B : List Nat}
  {ty : TypeId} {pos : String} {af : Array Edge} {d : Nat} {v u : Value}
variable {α : Type} {R : World → List Value → α → Prop} {E k m bytes : Nat} {z : List Value} {xs ys : List α} {css : List (List Value)} {fp : Nat → Prop} {w0 : World} {rs : List Rs}
theorem k_four (i j m o : Nat) (hr : Region.ready .any ops listed = [i, j, m, o]) (h1 : wpKi P ops Q k0 (ChgF B h0 w) fuel listed i a w) (h2 : wpKi P ops Q k0 (ChgF B h0 w) fuel listed j a w) (h3 : wpKi P ops Q k0 (ChgF B h0 w) fuel listed m a w) (h4 : wpKi P ops Q k0 (ChgF B h0 w) fuel listed o a w) : wpK P ops Q k0 (ChgF B h0 w) (fuel + 1) listed a w := by
  refine ⟨fun h => (by rw [hr] at h; cases h), fun q hq => ?_⟩
  rw [hr] at hq
  simp only [List.mem_cons, List.not_mem_nil, or_false] at hq
  rcases hq with rfl | rfl | rfl | rfl
  · exact h1
  · exact h2
  · exact h3
  · exact h4
theorem k_of_kk (i : Nat) (hr : Region.ready .any ops listed = [i]) (h : wpKi P ops Q k0 (ChgF B h0 w) fuel listed i a w) : wpK P ops Q k0 (ChgF B h0 w) (fuel + 1) listed a w := by
  refine ⟨fun h => (by rw [hr] at h; cases h), fun q hq => ?_⟩
  rw [hr] at hq
  have := List.mem_singleton.1 hq
  subst this
  exact h
theorem kk_makeL {β : Type} {e : β → List Value} {z0 : β} (i : Nat) {x y : Operand} {T : Nat} {q1 q2 : IntKind} {L C : Nat} (H : Has a n l) (hi : ops[i]? = some ⟨some d, .makeSlice T x y, ty, pos, af, none⟩) (ht : P.underlying T = some (.slice E)) (hE : ElemOk P E k bytes z) (hz : e z0 = z) (ex : lo l x = some (.int q1 L)) (ey : lo l y = some (.int q2 C)) (hLC : L ≤ C)
    (hb : C * bytes ≤ 140737488355328) (hm : C ≤ maxLen) (hd : Nat.blt d n = true)
    (h : ∀ b w', Own w' E k (.slice (some ⟨b, 0, none⟩) L C) (List.replicate L z0).length ((List.replicate L z0).flatMap e) → Ext w w' → w.heap.size = b → ∀ a', Has a' n ((d, some (.slice (some ⟨b, 0, none⟩) L C)) :: l) → wpK P ops Q k0 (ChgF B h0 w') fuel (listed.setIfInBounds i true) a' w') :
    wpKi P ops Q k0 (ChgF B h0 w) fuel listed i a w :=
  kk_make i H hi ht hE ex ey hLC hb hm hd fun b w' hO he hs a' H' => h b w' (by rw [List.length_replicate, List.flatMap, List.map_replicate, hz]; exact hO) he hs a' H'
end
section
variable {α : Type} {R : World → List Value → α → Prop} {fp : Nat → Prop} {w0 w : World} {rs : List Rs} {E k n : Nat} {v : Value}
theorem St.mkDeep0 {zc : List Value} {z0 : α} (hk : zc.length = k) (h1 : ∀ u ∈ zc, u.oneCell' = true) (hz : ∀ w, R w zc z0) (h : St fp w0 w (ownR E k v n (List.replicate n zc).flatten :: rs)) : St fp w0 w (deepR E k R v (List.replicate n z0) :: rs) := by
  refine St.mkDeep (css := List.replicate n zc) ?_
  rw [List.length_replicate]
  exact (h.trivAny (F := DIn k R (List.replicate n zc) (List.replicate n z0)) (make_deep hk h1 hz n)).pick 1 rfl
end
end Go.Proofs.YtpnmaabhjgiggaaGreatDoor
