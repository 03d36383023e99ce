/- What an argument reads as, and its bulk: the readings of XRead with the bulk of the datum beside them. -/
import Derived.Test.YtnhjohcgnmogaaaDoorRead
import Derived.Test.YtnhjohcgnmogaaaDoorRows
set_option linter.unusedVariables false
set_option linter.unusedSimpArgs false
set_option linter.unusedSectionVars false
namespace Go.Proofs.YtnhjohcgnmogaaaDoor
open Go Go.RowKit

theorem inK_le {z : Int} (h : inK .i64 z) : z ≤ 9223372036854775807 := by
  simp only [inK, Lit.wf, Bool.and_eq_true, decide_eq_true_eq] at h
  have : IntKind.i64.max = 9223372036854775807 := by decide
  omega
section
variable {H : Type} {enc : TypeId × Value → H} {P : Program} {w : World}
theorem bulk_one (d : DataW H) : 1 ≤ Rows.uptoBulk d := by
  cases d with
  | lit l => cases l <;> simp [Rows.uptoBulk]
  | _ => simp [Rows.uptoBulk]
theorem bulk_all : ∀ (l : List (DataW H)), Rows.uptoBulkAll l = (l.map Rows.uptoBulk).sum
  | [] => by simp [Rows.uptoBulkAll]
  | x :: r => by simp [Rows.uptoBulkAll, bulk_all r]
/-- As 'Rd', of such a bulk. -/
def RdB (enc : TypeId × Value → H) (P : Program) (w : World) (t : TypeId) (cs : List Value) (b : Nat) : Prop :=
  ∃ fuel x, DataW.trod enc P w 0 (fun _ => true) true fuel t cs = some x ∧ (∀ n ∈ x.1.weights P t, n ≤ reachBytes) ∧ Rows.uptoBulk x.1 = b
theorem RdB.rd {t : TypeId} {cs : List Value} {b : Nat} (h : RdB enc P w t cs b) : Rd enc P w t cs := by
  obtain ⟨f, x, h1, h2, _⟩ := h; exact ⟨f, x, h1, h2⟩
theorem RdB.pos {t : TypeId} {cs : List Value} {b : Nat} (h : RdB enc P w t cs b) : 1 ≤ b := by
  obtain ⟨f, x, _, _, rfl⟩ := h; exact bulk_one _
theorem RdB.string {t : TypeId} {cs : List Value} {b : Nat} (ht : P.underlying t = some .string) (h : RdB enc P w t cs b) : ∃ s, cs = [.string s] ∧ s.size + 1 = b := by
  obtain ⟨fuel, x, h, _, hb⟩ := h
  obtain ⟨s, rfl, rfl, _⟩ := DataW.trod_string ht h
  refine ⟨s, rfl, ?_⟩
  have e : s.data.toList.length = s.size := by simp [ByteArray.size_data]
  simp only [Rows.uptoBulk] at hb
  omega
theorem RdB.struct {t k : TypeId} {fl : List (TypeId × Nat)} {cs : List Value} {b : Nat} (hf : fldsB P t = some fl) (hk : sizeB P t = some k) (h : RdB enc P w t cs b) :
    cs.length = k ∧ ∃ bs : List Nat, bs.length = fl.length ∧ bs.sum + 1 = b ∧ ∀ (i ft off n : Nat), fl[i]? = some (ft, off) → sizeB P ft = some n → ∃ c, bs[i]? = some c ∧ RdB enc P w ft ((cs.drop off).take n) c := by
  obtain ⟨fuel, x, h, hw, hb⟩ := h
  unfold fldsB at hf
  cases hu : P.underlying t with
  | none => simp [hu] at hf
  | some dsc =>
    cases dsc with
    | struct fs =>
      simp only [hu] at hf
      cases hf
      obtain ⟨xs, m, _, rfl, hl, hlen, hx⟩ := DataW.trod_struct hu h
      refine ⟨hl.trans (cells_size hk), xs.map fun y => Rows.uptoBulk y.1, by simp [hlen], ?_, fun i ft off n hi hn => ?_⟩
      · simp only [Rows.uptoBulk, bulk_all, List.map_map] at hb
        simpa [Function.comp_def] using hb
      simp only [List.getElem?_map, Option.map_eq_some_iff, Prod.mk.injEq] at hi
      obtain ⟨f, hi, rfl, rfl⟩ := hi
      have hi' : fs[i]? = some f := by simpa using hi
      have := hx i f hi'
      rw [cells_size hn] at this
      have hlt : i < xs.length := by rw [hlen]; exact (Array.getElem?_eq_some_iff.1 hi').1
      obtain ⟨y, hy⟩ : ∃ y, xs[i]? = some y := ⟨_, List.getElem?_eq_getElem hlt⟩
      rw [hy] at this
      refine ⟨Rows.uptoBulk y.1, by simp [hy], m, y, this, fun q hq => hw q ?_, rfl⟩
      simp only [DataW.weights, hu]
      exact weightsEach_mem (j := i) (t := f.type) (d := y.1) (by simp [hi]) (by simp [hy]) q hq
    | _ => simp [hu] at hf
theorem sum_get {l : List Nat} {i c : Nat} (h : l[i]? = some c) : c ≤ l.sum := by
  induction l generalizing i with
  | nil => simp at h
  | cons x r ih =>
    cases i with
    | zero => simp at h; subst h; simp
    | succ j => have := ih (i := j) (by simpa using h); simp; omega
theorem sums_le {α β : Type} {m : α → Nat} {f : β → Nat} : ∀ {xs : List α} {ys : List β}, xs.length = ys.length → (∀ (i : Nat) x y, xs[i]? = some x → ys[i]? = some y → m x ≤ f y) → (xs.map m).sum ≤ (ys.map f).sum
  | [], _, _, _ => by simp
  | x :: xs, [], h, _ => by simp at h
  | x :: xs, y :: ys, h, hh => by
    have h0 := hh 0 x y rfl rfl
    have := sums_le (m := m) (f := f) (xs := xs) (ys := ys) (by simpa using h) fun i a b ha hb => hh (i + 1) a b (by simpa using ha) (by simpa using hb)
    simp; omega
/-- A slice: its elements one by one, and what they come to. -/
theorem RdB.slice {α : Type} {R : World → List Value → α → Prop} {ok : α → Prop} {m : α → Nat} {t e k bytes : TypeId} {cs : List Value} {b : Nat} (ht : P.underlying t = some (.slice e)) (hk : sizeB P e = some k) (hb : P.bytesOf e = bytes)
    (hel : ∀ ecs c, RdB enc P w e ecs c → ecs.length = k → ∃ x, R w ecs x ∧ ok x ∧ m x ≤ c) (h : RdB enc P w t cs b) : ∃ v xs, cs = [v] ∧ Sl w k bytes R v xs ∧ (∀ x ∈ xs, ok x) ∧ (xs.map m).sum + 1 ≤ b := by
  obtain ⟨fuel, x, h, hw, hbk⟩ := h
  rcases DataW.trod_slice ht h with ⟨rfl, rfl⟩ | ⟨a, len, cap, elems, rest, mm, _, rfl, rfl, _, hl, hm, hlen, hx, hsp, _⟩
  · exact ⟨_, [], rfl, ⟨⟨none, 0, rfl, Nat.le_refl _, Nat.zero_le _, fun _ => ⟨rfl, rfl⟩, by simp⟩, by simp [lim]⟩, by simp, by simp [Rows.uptoBulk] at hbk; simp; omega⟩
  · have hwt : (len + rest.length) * bytes ≤ reachBytes := by
      have := hw ((elems.length + rest.length) * P.bytesOf e) (by simp [DataW.weights, ht])
      rwa [hlen, hb] at this
    have hwe : ∀ y ∈ elems, ∀ n ∈ y.1.weights P e, n ≤ reachBytes := fun y hy n hn => hw n (by
      simp only [DataW.weights, ht, List.mem_cons, List.mem_append]
      exact .inr (.inl (weightsAll_mem (d := y.1) (List.mem_map.2 ⟨y, hy, rfl⟩) n hn)))
    have key : ∀ i, i < len → ∃ y : α, (ok y ∧ ∀ z, elems[i]? = some z → m y ≤ Rows.uptoBulk z.1) ∧ ∃ ecs : List Value, ecs.length = k ∧ R w ecs y ∧ ∀ j u, ecs[j]? = some u → w.cell? (a.add (i * k + j)) = some u := by
      intro i hi
      have := hx i hi
      obtain ⟨z, hz⟩ : ∃ z, elems[i]? = some z := ⟨_, List.getElem?_eq_getElem (by omega)⟩
      rw [hz, cells_size hk] at this
      obtain ⟨ecs, h1, h2⟩ := Option.bind_eq_some_iff.1 this
      obtain ⟨_, hel1, hel2⟩ := World.cells?_some h1
      obtain ⟨y, hy, hok, hm⟩ := hel ecs _ ⟨mm, z, h2, hwe z (List.mem_of_getElem? hz), rfl⟩ hel1
      refine ⟨y, ⟨hok, fun z' hz' => ?_⟩, ecs, hel1, hy, fun j u hu => ?_⟩
      · obtain rfl := Option.some.inj (hz.symm.trans hz'); exact hm
      have hj : j < k := by rw [← hel1]; exact (List.getElem?_eq_some_iff.1 hu).1
      have := hel2 j hj
      rw [add_add] at this
      rw [this, hu]
    obtain ⟨xs, hxl, hxs⟩ := pick_list len key
    refine ⟨_, xs, rfl, ⟨⟨some a, cap, by rw [hxl], by omega, hm, by simp, fun ad ha i y hy => ?_⟩, ?_⟩, fun y hy => ?_, ?_⟩
    · cases ha; exact (hxs i y hy).2
    · rw [hxl]
      have : len * bytes ≤ (len + rest.length) * bytes := Nat.mul_le_mul_right _ (by omega)
      have e : lim = reachBytes := by decide
      omega
    · obtain ⟨i, hi⟩ := List.mem_iff_getElem?.1 hy
      exact (hxs i y hi).1.1
    · have := sums_le (m := m) (f := fun z => Rows.uptoBulk z.1) (xs := xs) (ys := elems) (by omega) fun i x y hx hy => (hxs i x hx).1.2 y hy
      simp only [Rows.uptoBulk, bulk_all, List.map_map, Function.comp_def] at hbk
      omega
/-- All arguments' readings. -/
theorem RdB.of {ts : List TypeId} {ds : List (DataW H)} {j t : Nat} {v : Value} {d : DataW H} {p : List MemPlace} (h : DataW.Trod enc P w 0 (fun _ => true) true t v d p) (hz : (DataW.weightsEach P ts ds).all (· ≤ reachBytes) = true) (ht : ts[j]? = some t) (hd : ds[j]? = some d) :
    RdB enc P w t v.cells.toList (Rows.uptoBulk d) := by
  obtain ⟨fuel, h⟩ := h
  exact ⟨fuel, _, h, fun n hn => by simpa using List.all_eq_true.1 hz n (weightsEach_mem ht hd n hn), rfl⟩
theorem small_of {l : List (DataW H)} (h : Rows.uptoSmall H l = true) : (l.map Rows.uptoBulk).sum ≤ 1048576 := by
  rw [← bulk_all]; simpa [Rows.uptoSmall] using h
theorem elB_string {S : TypeId} (hS : P.underlying S = some .string) (ecs : List Value) (c : Nat) (h : RdB enc P w S ecs c) (_ : ecs.length = 1) : ∃ x, Flat eS w ecs x ∧ True ∧ x.size + 1 ≤ c := by
  obtain ⟨z, rfl, hz⟩ := h.string hS
  exact ⟨z, rfl, trivial, by omega⟩
end
end Go.Proofs.YtnhjohcgnmogaaaDoor
