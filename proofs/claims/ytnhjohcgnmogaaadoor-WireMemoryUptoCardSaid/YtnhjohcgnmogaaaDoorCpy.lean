/- A text copied into an array of a variable; an array's place written. No program is named here. -/
import Derived.Test.YtnhjohcgnmogaaaDoorMid
set_option linter.unusedVariables false
set_option linter.unusedSimpArgs false
set_option linter.unusedSectionVars false
namespace Go.Proofs.YtnhjohcgnmogaaaDoor
open Go Go.RowKit

section
variable {P : Program} {L : Operand → Option Value} {C : World → Prop} {x : Operand}
theorem q_sliceArr {T e k len b o : Nat} (ht : P.underlying T = some (.array len e)) (hk : sizeB P e = some k) (ex : L x = some (.pointer (some ⟨b, o, none⟩))) (hl : len ≠ 0) :
    Q1 P L (.slice T x none none none) C (.slice (some ⟨b, o, none⟩) len len) :=
  fun ρ h w' _ dst ty pos af g => by
    simp only [execOp, h x _ ex, Option.map_none]
    simp [Instr.sliceAt, Instr.sureAddr, run_underlying ht, Instr.sliceBounds, run_sizeOf hk, hl, Addr.add]
end
/-- A text's bytes come over the first of an array. -/
def cpyL (v : List UInt8) (s : ByteArray) : List UInt8 := s.data.toList.take v.length ++ v.drop s.size
theorem cpyL_len (v : List UInt8) (s : ByteArray) : (cpyL v s).length = v.length := by
  have : s.data.toList.length = s.size := by simp [ByteArray.size_data]
  simp only [cpyL, List.length_append, List.length_take, List.length_drop, this]; omega
def cpyV {n : Nat} (v : Vector UInt8 n) (s : ByteArray) : Vector UInt8 n := ⟨(cpyL v.toList s).toArray, by simp [cpyL_len]⟩
theorem cpyV_list {n : Nat} (v : Vector UInt8 n) (s : ByteArray) : (cpyV v s).toList = cpyL v.toList s := by simp [cpyV]
section
variable {P : Program} {ops : Array Oper} {Q : Exit → Act → World → Prop} {a : Act} {n : Nat} {l : List (Nat × Option Value)} {w : World} {B : List Nat} {k0 h0 fuel : Nat} {listed : Array Bool} {ty : TypeId} {pos : String} {af : Array Edge} {d : Nat}
theorem run_copyStr {t t' e b o m T : Nat} {s : ByteArray} {cs : List Value} (ht : P.underlying t = some (.slice e)) (he : sizeB P e = some 1) (hb : Blk w b cs T) (hl : o + m ≤ cs.length) :
    ∃ w', (Builtin.copy_ #[t, t'] ty #[.slice (some ⟨b, o, none⟩) m m, .string s]).run P w = .ok (goInt (Nat.min s.size m)) w' ∧
      Blk w' b (cs.take o ++ (s.data.toList.take m).map (fun c : UInt8 => Value.int .u8 (c.toNat : Int)) ++ cs.drop (o + Nat.min s.size m)) T ∧ Chg [b] w w' ∧ w'.heap.size = w.heap.size := by
  have hs : s.data.toList.length = s.size := by simp [ByteArray.size_data]
  have hex : (s.data.toList.map fun c : UInt8 => Value.int .u8 (c.toNat : Int)).take (Nat.min s.size m) = (s.data.toList.take m).map fun c : UInt8 => Value.int .u8 (c.toNat : Int) := by
    rw [List.map_take]
    by_cases h : s.size ≤ m
    · rw [show Nat.min s.size m = s.size from Nat.min_eq_left h, List.take_of_length_le (by simp [hs]), List.take_of_length_le (by simp [hs]; exact h)]
    · rw [show Nat.min s.size m = m from Nat.min_eq_right (by omega)]
  have hvl : ((s.data.toList.take m).map fun c : UInt8 => Value.int .u8 (c.toNat : Int)).length = Nat.min s.size m := by
    rw [List.length_map, List.length_take, hs]; show min m s.size = min s.size m; omega
  obtain ⟨w', hr, hb', hch, hsz⟩ := storeCells_blk P w b T ((s.data.toList.take m).map fun c : UInt8 => Value.int .u8 (c.toNat : Int)) 0 o cs hb (by rw [hvl]; have : Nat.min s.size m ≤ m := Nat.min_le_right _ _; omega) (by
    intro u hu
    obtain ⟨c, _, rfl⟩ := List.mem_map.1 hu
    rfl)
  refine ⟨w', ?_, by rw [hvl] at hb'; simpa using hb', hch, hsz⟩
  simp [Builtin.copy_, run_underlying ht, run_sizeOf he, Builtin.firstCells, Builtin.lenOf]
  rw [hex, hr]; rfl
theorem k_copyStr (i : Nat) {x y : Operand} {t t' e b o m T : Nat} {s : ByteArray} {cs : List Value} (H : Has a n l) (hi : ops[i]? = some ⟨some d, .call { callee := .builtin .copy, args := #[x, y], argTypes := #[t, t'] }, ty, pos, af, none⟩)
    (ht : P.underlying t = some (.slice e)) (he : sizeB P e = some 1) (ex : lo l x = some (.slice (some ⟨b, o, none⟩) m m)) (ey : lo l y = some (.string s)) (hb : Blk w b cs T) (hl : o + m ≤ cs.length) (hd : Nat.blt d n = true)
    (hr : Region.ready .any ops listed = [i]) (hB : (b < h0 → b ∈ B) ∨ act k0 (listed.setIfInBounds i true) = false)
    (h : ∀ w', Blk w' b (cs.take o ++ (s.data.toList.take m).map (fun c : UInt8 => Value.int .u8 (c.toNat : Int)) ++ cs.drop (o + Nat.min s.size m)) T → Chg [b] w w' → w'.heap.size = w.heap.size → ∀ a', Has a' n ((d, some (.int .i64 (Nat.min s.size m : Nat))) :: l) → wpK P ops Q k0 (ChgF B h0 w') fuel (listed.setIfInBounds i true) a' w') :
    wpK P ops Q k0 (ChgF B h0 w) (fuel + 1) listed a w := by
  obtain ⟨w', hrr, hb', hch, hsz⟩ := run_copyStr (ty := ty) (t' := t') (m := m) (s := s) ht he hb hl
  refine k_run i (w' := w') H hi (fun ρ hρ => by simp [execOp, resolve, invoke, builtin, hρ x _ ex, hρ y _ ey, hrr, goInt]) hd hr ?_ (h w' hb' hch hsz)
  rcases hB with hB | hB
  · exact .inl (ChgF.of hch fun k hk h => by rw [List.mem_singleton.1 hk] at h ⊢; exact hB h)
  · exact .inr hB
/-- What a copied text makes of the cells of a variable that ends with the array. -/
theorem cpy_cells {A : List Value} {len : Nat} {v : Vector UInt8 len} {s : ByteArray} :
    (A ++ v.toList.map (fun c : UInt8 => Value.int .u8 (c.toNat : Int))).take A.length ++ (s.data.toList.take len).map (fun c : UInt8 => Value.int .u8 (c.toNat : Int)) ++ (A ++ v.toList.map (fun c : UInt8 => Value.int .u8 (c.toNat : Int))).drop (A.length + Nat.min s.size len)
      = A ++ (cpyV v s).toList.map (fun c : UInt8 => Value.int .u8 (c.toNat : Int)) := by
  have hv : v.toList.length = len := by simp
  rw [cpyV_list, cpyL, hv, List.take_append_of_le_length (Nat.le_refl _), List.take_length, List.drop_append, List.map_append, List.append_assoc]
  congr 2
  rw [List.drop_of_length_le (by omega), List.nil_append, show A.length + Nat.min s.size len - A.length = Nat.min s.size len by omega, ← List.map_drop]
  congr 1
  by_cases h : s.size ≤ len
  · rw [show Nat.min s.size len = s.size from Nat.min_eq_left h]
  · rw [show Nat.min s.size len = len from Nat.min_eq_right (by omega), List.drop_of_length_le (by omega), List.drop_of_length_le (by omega)]
end
/-- One element of several cells. -/
theorem fill_one {k : Nat} {v : Value} {zs ds : List Value} (h : v.cells = ds.toArray) (hd : ds.length = k) (hz : zs.length = k) : Instr.fill (fun i => some (i * k, k)) ((List.replicate 1 zs).flatten).toArray [(0, v)] = some ds.toArray := by
  have e : (List.replicate 1 zs).flatten = zs := by simp
  rw [e, fillA (ds := ds) (n := k) (off := 0) h hd (by simp) (by omega), List.take_zero, List.nil_append, Nat.zero_add, List.drop_of_length_le (by omega), List.append_nil]
  rfl
end Go.Proofs.YtnhjohcgnmogaaaDoor
