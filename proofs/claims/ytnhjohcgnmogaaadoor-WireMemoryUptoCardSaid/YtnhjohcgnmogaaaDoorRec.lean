/- Lists of records: a tag and a list of bytes of its own. No program is named here. -/
import Derived.Test.YtnhjohcgnmogaaaDoorList
set_option linter.unusedVariables false
set_option linter.unusedSimpArgs false
set_option linter.unusedSectionVars false
namespace Go.Proofs.YtnhjohcgnmogaaaDoor
open Go Go.RowKit

/-- A record as it lies in memory: q is its body's slice. -/
structure RecM where
  tag : Int
  q : Value
  body : List UInt8
def eRec (r : RecM) : List Value := [.int .i64 r.tag, r.q]
def RecM.key (r : RecM) : Int × List UInt8 := (r.tag, r.body)
/-- The bodies are read. -/
def RecsIn (w : World) (xs : List RecM) : Prop := ∀ r ∈ xs, SlR w 1 (Flat eB) r.q r.body
theorem RecsIn.ext {w w' : World} {xs : List RecM} (h : RecsIn w xs) (e : Ext w w') : RecsIn w' xs := fun r hr => (h r hr).ext (Flat.mono _) e
theorem RecsIn.nil (w : World) : RecsIn w [] := fun r hr => by cases hr
theorem eRec_len (xs : List RecM) : ∀ x ∈ xs, (eRec x).length = 2 := fun _ _ => rfl
theorem key_snoc {xs ys : List RecM} {i : Nat} {r s : RecM} (h : ys.map RecM.key = (xs.take i).map RecM.key) (hx : xs[i]? = some r) (hs : s.key = r.key) : (ys ++ [s]).map RecM.key = (xs.take (i + 1)).map RecM.key := by
  rw [take_snoc hx, List.map_append, List.map_append, h]
  simp [hs]
section
variable {fp : Nat → Prop} {w0 w : World} {rs : List Rs}
theorem St.ownGe {E k n i : Nat} {v : Value} {xs : List Value} (h : St NB w0 w rs) (hi : rs[i]? = some (ownR E k v n xs)) : ∀ b ∈ blks v, w0.heap.size ≤ b := fun b hb => by
  obtain ⟨g, h1, h2⟩ := h.sep.get i hi
  exact (h2 b ((h1.2 b).2 hb)).elim False.elim id
/-- One body more. -/
theorem St.recAdd {E n : Nat} {xs : List RecM} {r : RecM} (h : St fp w0 w (ownR E 1 r.q n (r.body.flatMap eB) :: anyR (fun w' => RecsIn w' xs) :: rs)) (hn : n = r.body.length) : St fp w0 w (anyR (fun w' => RecsIn w' (xs ++ [r])) :: rs) := by
  have h := (h.ownAny (F := fun w' => SlR w' 1 (Flat eB) r.q r.body) fun w' hO => hO.slB hn).anyAnd
  exact h.anyMono fun w' hw x hx => by
    rcases List.mem_append.1 hx with hx | hx
    · exact hw.2 x hx
    · rw [List.mem_singleton.1 hx]; exact hw.1
end
end Go.Proofs.YtnhjohcgnmogaaaDoor
