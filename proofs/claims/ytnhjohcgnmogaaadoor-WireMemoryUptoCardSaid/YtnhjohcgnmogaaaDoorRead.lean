/- Out of what an argument reads as (DataW): the plain types' values, list by list. No program is named here. -/
import Derived.Test.YtnhjohcgnmogaaaDoorCopy
import Derived.ProofKit
import Derived.SizedLaws
import Derived.OpenShut
import Derived.ChangeArms
set_option linter.unusedVariables false
set_option linter.unusedSimpArgs false
set_option linter.unusedSectionVars false
namespace Go.Proofs.YtnhjohcgnmogaaaDoor
open Go Go.RowKit

def fldsB (P : Program) (t : TypeId) : Option (List (TypeId × Nat)) :=
  match P.underlying t with
  | some (.struct fs) => some (fs.toList.map fun f => (f.type, f.offset))
  | _ => none
def inK (k : IntKind) (z : Int) : Prop := (Lit.int k z).wf = true

section
variable {H : Type} {enc : TypeId × Value → H} {P : Program} {w : World}
/-- The cells read as data of the type; whatever is in it is not larger than a reading reaches. -/
def Rd (enc : TypeId × Value → H) (P : Program) (w : World) (t : TypeId) (cs : List Value) : Prop :=
  ∃ fuel x, DataW.trod enc P w 0 (fun _ => true) true fuel t cs = some x ∧ ∀ n ∈ x.1.weights P t, n ≤ reachBytes

theorem cells_size {t k : Nat} (h : sizeB P t = some k) : P.cellsOf t = k := by unfold sizeB at h; unfold Program.cellsOf; rw [h]; rfl

theorem Rd.int {t : TypeId} {k : IntKind} {cs : List Value} (ht : P.underlying t = some (.int k)) (h : Rd enc P w t cs) : ∃ z, cs = [.int k z] ∧ inK k z := by
  obtain ⟨fuel, x, h, _⟩ := h
  obtain ⟨n, rfl, _, hw⟩ := DataW.trod_int ht h
  exact ⟨n, rfl, hw⟩
theorem Rd.bool {t : TypeId} {cs : List Value} (ht : P.underlying t = some .bool) (h : Rd enc P w t cs) : ∃ b, cs = [.bool b] := by
  obtain ⟨fuel, x, h, _⟩ := h
  obtain ⟨n, rfl, _⟩ := DataW.trod_bool ht h
  exact ⟨n, rfl⟩
theorem Rd.string {t : TypeId} {cs : List Value} (ht : P.underlying t = some .string) (h : Rd enc P w t cs) : ∃ s, cs = [.string s] ∧ s.size ≤ lim := by
  obtain ⟨fuel, x, h, hw⟩ := h
  obtain ⟨s, rfl, rfl, _⟩ := DataW.trod_string ht h
  refine ⟨s, rfl, ?_⟩
  have := hw s.data.toList.length (by simp [DataW.weights])
  have e : s.data.toList.length = s.size := by simp [ByteArray.size_data]
  rw [e] at this
  simpa [lim, reachBytes] using this
theorem weightsEach_mem {ts : List TypeId} {ds : List (DataW H)} {j : Nat} {t : TypeId} {d : DataW H} (ht : ts[j]? = some t) (hd : ds[j]? = some d) : ∀ n ∈ d.weights P t, n ∈ DataW.weightsEach P ts ds := DataW.weights_mem_each ht hd
theorem weightsAll_mem {e : TypeId} : ∀ {ds : List (DataW H)} {d : DataW H}, d ∈ ds → ∀ n ∈ d.weights P e, n ∈ DataW.weightsAll P e ds
  | [], d, h, _, _ => by cases h
  | x :: ds, d, h, n, hn => by
    simp only [DataW.weightsAll, List.mem_append]
    rcases List.mem_cons.1 h with rfl | h
    · exact .inl hn
    · exact .inr (weightsAll_mem h n hn)
theorem Rd.struct {t k : TypeId} {fl : List (TypeId × Nat)} {cs : List Value} (hf : fldsB P t = some fl) (hk : sizeB P t = some k) (h : Rd enc P w t cs) :
    cs.length = k ∧ ∀ (i ft off n : Nat), fl[i]? = some (ft, off) → sizeB P ft = some n → Rd enc P w ft ((cs.drop off).take n) := by
  obtain ⟨fuel, x, h, hw⟩ := h
  unfold fldsB at hf
  cases hu : P.underlying t with
  | none => simp [hu] at hf
  | some dsc =>
    cases dsc with
    | struct fs =>
      simp only [hu] at hf
      cases hf
      obtain ⟨xs, m, _, rfl, hl, hlen, hx⟩ := DataW.trod_struct hu h
      refine ⟨hl.trans (cells_size hk), fun i ft off n hi hn => ?_⟩
      simp only [List.getElem?_map, Option.map_eq_some_iff, Prod.mk.injEq] at hi
      obtain ⟨f, hi, rfl, rfl⟩ := hi
      have hi' : fs[i]? = some f := by simpa using hi
      have := hx i f hi'
      rw [cells_size hn] at this
      have hlt : i < xs.length := by rw [hlen]; exact (Array.getElem?_eq_some_iff.1 hi').1
      obtain ⟨y, hy⟩ : ∃ y, xs[i]? = some y := ⟨_, List.getElem?_eq_getElem hlt⟩
      rw [hy] at this
      refine ⟨m, y, this, fun q hq => hw q ?_⟩
      simp only [DataW.weights, hu]
      exact weightsEach_mem (j := i) (t := f.type) (d := y.1) (by simp [hi]) (by simp [hy]) q hq
    | _ => simp [hu] at hf
theorem Rd.array {t e k n : TypeId} {cs : List Value} (ht : P.underlying t = some (.array n e)) (hk : sizeB P e = some k) (hs : sizeB P t = some (n * k)) (h : Rd enc P w t cs) :
    cs.length = n * k ∧ ∀ i, i < n → Rd enc P w e ((cs.drop (i * k)).take k) := by
  obtain ⟨fuel, x, h, hw⟩ := h
  obtain ⟨xs, m, _, rfl, hl, hlen, hx⟩ := DataW.trod_array ht h
  refine ⟨hl.trans (cells_size hs), fun i hi => ?_⟩
  have := hx i hi
  rw [cells_size hk] at this
  obtain ⟨y, hy⟩ : ∃ y, xs[i]? = some y := ⟨_, List.getElem?_eq_getElem (show i < xs.length by rw [hlen]; exact hi)⟩
  rw [hy] at this
  refine ⟨m, y, this, fun q hq => hw q ?_⟩
  simp only [DataW.weights, ht]
  exact weightsAll_mem (d := y.1) (List.mem_map.2 ⟨y, List.mem_of_getElem? hy, rfl⟩) q hq

theorem pick_list {α : Type} {Q : Nat → α → Prop} : ∀ (n : Nat), (∀ i, i < n → ∃ x, Q i x) → ∃ xs : List α, xs.length = n ∧ ∀ i x, xs[i]? = some x → Q i x
  | 0, _ => ⟨[], rfl, fun i x h => by simp at h⟩
  | n + 1, h => by
    obtain ⟨xs, hl, hx⟩ := pick_list n fun i hi => h i (by omega)
    obtain ⟨x, hq⟩ := h n (by omega)
    refine ⟨xs ++ [x], by simp [hl], fun i y hy => ?_⟩
    by_cases hi : i < n
    · rw [List.getElem?_append_left (by omega)] at hy
      exact hx i y hy
    · rw [List.getElem?_append_right (by omega)] at hy
      have : i - xs.length = 0 := by
        have := (List.getElem?_eq_some_iff.1 hy).1
        simp at this; omega
      rw [this] at hy
      simp at hy
      subst hy
      rw [show i = n by omega]
      exact hq

/-- A slice: its elements one by one. -/
theorem Rd.slice {α : Type} {R : World → List Value → α → Prop} {ok : α → Prop} {t e k bytes : TypeId} {cs : List Value} (ht : P.underlying t = some (.slice e)) (hk : sizeB P e = some k) (hb : P.bytesOf e = bytes)
    (hel : ∀ ecs, Rd enc P w e ecs → ecs.length = k → ∃ x, R w ecs x ∧ ok x) (h : Rd enc P w t cs) : ∃ v xs, cs = [v] ∧ Sl w k bytes R v xs ∧ ∀ x ∈ xs, ok x := by
  obtain ⟨fuel, x, h, hw⟩ := h
  rcases DataW.trod_slice ht h with ⟨rfl, rfl⟩ | ⟨a, len, cap, elems, rest, m, _, rfl, rfl, _, hl, hm, hlen, hx, hsp, _⟩
  · exact ⟨_, [], rfl, ⟨⟨none, 0, rfl, Nat.le_refl _, Nat.zero_le _, fun _ => ⟨rfl, rfl⟩, by simp⟩, by simp [lim]⟩, by simp⟩
  · have hwt : (len + rest.length) * bytes ≤ reachBytes := by
      have := hw ((elems.length + rest.length) * P.bytesOf e) (by simp [DataW.weights, ht])
      rwa [hlen, hb] at this
    have hwe : ∀ y ∈ elems, ∀ n ∈ y.1.weights P e, n ≤ reachBytes := fun y hy n hn => hw n (by
      simp only [DataW.weights, ht, List.mem_cons, List.mem_append]
      exact .inr (.inl (weightsAll_mem (d := y.1) (List.mem_map.2 ⟨y, hy, rfl⟩) n hn)))
    have key : ∀ i, i < len → ∃ y : α, ok y ∧ ∃ ecs : List Value, ecs.length = k ∧ R w ecs y ∧ ∀ j u, ecs[j]? = some u → w.cell? (a.add (i * k + j)) = some u := by
      intro i hi
      have := hx i hi
      obtain ⟨z, hz⟩ : ∃ z, elems[i]? = some z := ⟨_, List.getElem?_eq_getElem (by omega)⟩
      rw [hz, cells_size hk] at this
      obtain ⟨ecs, h1, h2⟩ := Option.bind_eq_some_iff.1 this
      obtain ⟨_, hel1, hel2⟩ := World.cells?_some h1
      obtain ⟨y, hy, hok⟩ := hel ecs ⟨m, z, h2, hwe z (List.mem_of_getElem? hz)⟩ hel1
      refine ⟨y, hok, ecs, hel1, hy, fun j u hu => ?_⟩
      have hj : j < k := by rw [← hel1]; exact (List.getElem?_eq_some_iff.1 hu).1
      have := hel2 j hj
      rw [add_add] at this
      rw [this, hu]
    obtain ⟨xs, hxl, hxs⟩ := pick_list len key
    refine ⟨_, xs, rfl, ⟨⟨some a, cap, by rw [hxl], by omega, hm, by simp, fun ad ha i y hy => ?_⟩, ?_⟩, fun y hy => ?_⟩
    · cases ha; exact (hxs i y hy).2
    · rw [hxl]
      have : len * bytes ≤ (len + rest.length) * bytes := Nat.mul_le_mul_right _ (by omega)
      have e : lim = reachBytes := by decide
      omega
    · obtain ⟨i, hi⟩ := List.mem_iff_getElem?.1 hy
      exact (hxs i y hi).1

theorem take_one {cs : List Value} {o : Nat} {v : Value} (h : (cs.drop o).take 1 = [v]) : cs[o]? = some v := by
  have : ((cs.drop o).take 1)[0]? = some v := by rw [h]; rfl
  simpa [List.getElem?_take] using this
theorem ints_of {k : IntKind} {n : Nat} {cs : List Value} (hl : cs.length = n) (h : ∀ i, i < n → ∃ z, (cs.drop (i * 1)).take 1 = [.int k z] ∧ inK k z) : ∃ zs : List Int, cs = zs.map (Value.int k) ∧ zs.length = n ∧ ∀ z ∈ zs, inK k z := by
  obtain ⟨zs, hzl, hz⟩ := pick_list n h
  refine ⟨zs, ?_, hzl, fun z hm => ?_⟩
  · apply List.ext_getElem?
    intro i
    by_cases hi : i < n
    · obtain ⟨z, hzi⟩ : ∃ z, zs[i]? = some z := ⟨_, List.getElem?_eq_getElem (by omega)⟩
      have := take_one (hz i z hzi).1
      rw [Nat.mul_one] at this
      simp [this, hzi]
    · rw [List.getElem?_eq_none (by omega), List.getElem?_eq_none (by simp; omega)]
  · obtain ⟨i, hi⟩ := List.mem_iff_getElem?.1 hm
    exact (hz i z hi).2

/-- All arguments' readings. -/
theorem Rd.of {ts : List TypeId} {ds : List (DataW H)} {j t : Nat} {v : Value} {d : DataW H} {p : List MemPlace} (h : DataW.Trod enc P w 0 (fun _ => true) true t v d p) (hz : (DataW.weightsEach P ts ds).all (· ≤ reachBytes) = true) (ht : ts[j]? = some t) (hd : ds[j]? = some d) : Rd enc P w t v.cells.toList := by
  obtain ⟨fuel, h⟩ := h
  exact ⟨fuel, _, h, fun n hn => by simpa using List.all_eq_true.1 hz n (weightsEach_mem ht hd n hn)⟩
end

/-! ### The program's types -/
section
variable {H : Type} {enc : TypeId × Value → H} {P : Program} {w : World} {I U8 U32 B S A16 A64 : TypeId}
def okInt (z : Int) : Prop := inK .i64 z
def okTimer (t : TimerM) : Prop := inK .i64 t.proc ∧ inK .i64 t.due
def okPage (p : PageM) : Prop := inK .i64 p.rights ∧ p.data.length = 64 ∧ ∀ z ∈ p.data, inK .u8 z
def okProc (p : ProcM) : Prop := p.regs.length = 16 ∧ (∀ z ∈ p.regs, inK .u32 z) ∧ inK .u32 p.pc ∧ inK .i64 p.st ∧ inK .i64 p.prio ∧ inK .i64 p.wait ∧ inK .i64 p.obj
def okPort (p : PortM) : Prop := inK .i64 p.age ∧ ∀ m ∈ p.msgs, m.size ≤ lim
def okState (s : StateM') : Prop := inK .i64 s.id ∧ inK .i64 s.frame ∧ inK .i64 s.epoch ∧ (∀ p ∈ s.procs, okProc p) ∧ (∀ z ∈ s.ready, okInt z) ∧ (∀ t ∈ s.timers, okTimer t) ∧ (∀ z ∈ s.sems, okInt z) ∧ (∀ p ∈ s.ports, okPort p) ∧ (∀ p ∈ s.pages, okPage p)

theorem el_int (hI : P.underlying I = some (.int .i64)) (ecs : List Value) (h : Rd enc P w I ecs) (_ : ecs.length = 1) : ∃ x, Flat eI w ecs x ∧ okInt x := by
  obtain ⟨z, rfl, hz⟩ := h.int hI
  exact ⟨z, rfl, hz⟩
theorem el_bool (hB : P.underlying B = some .bool) (ecs : List Value) (h : Rd enc P w B ecs) (_ : ecs.length = 1) : ∃ x, Flat eF w ecs x ∧ True := by
  obtain ⟨z, rfl⟩ := h.bool hB
  exact ⟨z, rfl, trivial⟩
theorem el_string (hS : P.underlying S = some .string) (ecs : List Value) (h : Rd enc P w S ecs) (_ : ecs.length = 1) : ∃ x, Flat eS w ecs x ∧ x.size ≤ lim := by
  obtain ⟨z, rfl, hz⟩ := h.string hS
  exact ⟨z, rfl, hz⟩
theorem el_timer {T : TypeId} (hT : fldsB P T = some [(I, 0), (I, 1)]) (hs : sizeB P T = some 2) (hI : P.underlying I = some (.int .i64)) (hk : sizeB P I = some 1) (ecs : List Value) (h : Rd enc P w T ecs) (_ : ecs.length = 2) : ∃ x, Flat eTimer w ecs x ∧ okTimer x := by
  obtain ⟨hl, hf⟩ := h.struct hT hs
  obtain ⟨a, ha, ka⟩ := (hf 0 I 0 1 rfl hk).int hI
  obtain ⟨b, hb, kb⟩ := (hf 1 I 1 1 rfl hk).int hI
  match ecs, hl with
  | [x, y], _ =>
    simp at ha hb
    subst ha; subst hb
    exact ⟨⟨a, b⟩, rfl, ka, kb⟩
theorem el_page {T : TypeId} (hT : fldsB P T = some [(I, 0), (B, 1), (A64, 2)]) (hs : sizeB P T = some 66) (hI : P.underlying I = some (.int .i64)) (hk : sizeB P I = some 1) (hB : P.underlying B = some .bool) (hkB : sizeB P B = some 1)
    (hA : P.underlying A64 = some (.array 64 U8)) (hkA : sizeB P A64 = some (64 * 1)) (hU : P.underlying U8 = some (.int .u8)) (hkU : sizeB P U8 = some 1) (ecs : List Value) (h : Rd enc P w T ecs) (_ : ecs.length = 66) : ∃ x, Flat ePage w ecs x ∧ okPage x := by
  obtain ⟨hl, hf⟩ := h.struct hT hs
  obtain ⟨a, ha, ka⟩ := (hf 0 I 0 1 rfl hk).int hI
  obtain ⟨b, hb⟩ := (hf 1 B 1 1 rfl hkB).bool hB
  obtain ⟨hdl, hd⟩ := (hf 2 A64 2 64 rfl hkA).array hA hkU hkA
  obtain ⟨zs, hz, hzl, hzk⟩ := ints_of (n := 64) (by simpa using hdl) (fun i hi => (hd i hi).int hU)
  have ha' := take_one ha
  have hb' := take_one hb
  refine ⟨⟨a, b, zs⟩, ?_, ka, hzl, hzk⟩
  show ecs = Value.int .i64 a :: Value.bool b :: zs.map (Value.int .u8)
  match ecs, hl with
  | x :: y :: r, hl =>
    simp at ha' hb'
    subst ha'; subst hb'
    simp only [List.drop_succ_cons, List.drop_zero] at hz
    rw [List.take_of_length_le (by simp at hl; omega)] at hz
    rw [hz]
theorem el_proc {T : TypeId} (hT : fldsB P T = some [(A16, 0), (U32, 16), (I, 17), (I, 18), (I, 19), (I, 20)]) (hs : sizeB P T = some 21) (hI : P.underlying I = some (.int .i64)) (hk : sizeB P I = some 1)
    (hA : P.underlying A16 = some (.array 16 U32)) (hkA : sizeB P A16 = some (16 * 1)) (hU : P.underlying U32 = some (.int .u32)) (hkU : sizeB P U32 = some 1) (ecs : List Value) (h : Rd enc P w T ecs) (_ : ecs.length = 21) : ∃ x, Flat eProc w ecs x ∧ okProc x := by
  obtain ⟨hl, hf⟩ := h.struct hT hs
  obtain ⟨hdl, hd⟩ := (hf 0 A16 0 16 rfl hkA).array hA hkU hkA
  obtain ⟨zs, hz, hzl, hzk⟩ := ints_of (n := 16) (by simpa using hdl) (fun i hi => (hd i hi).int hU)
  obtain ⟨a, ha, ka⟩ := (hf 1 U32 16 1 rfl hkU).int hU
  obtain ⟨b, hb, kb⟩ := (hf 2 I 17 1 rfl hk).int hI
  obtain ⟨c, hc, kc⟩ := (hf 3 I 18 1 rfl hk).int hI
  obtain ⟨d, hd', kd⟩ := (hf 4 I 19 1 rfl hk).int hI
  obtain ⟨e, he, ke⟩ := (hf 5 I 20 1 rfl hk).int hI
  have ha' := take_one ha; have hb' := take_one hb; have hc' := take_one hc; have hd'' := take_one hd'; have he' := take_one he
  refine ⟨⟨zs, a, b, c, d, e⟩, ?_, hzl, hzk, ka, kb, kc, kd, ke⟩
  show ecs = zs.map (Value.int .u32) ++ [.int .u32 a, .int .i64 b, .int .i64 c, .int .i64 d, .int .i64 e]
  rw [← hz, List.drop_zero]
  apply List.ext_getElem?
  intro i
  by_cases h16 : i < 16
  · rw [List.getElem?_append_left (by simp; omega), List.getElem?_take, if_pos h16]
  · rw [List.getElem?_append_right (by simp; omega)]
    have e16 : (ecs.take 16).length = 16 := by simp; omega
    rw [e16]
    rcases (show i = 16 ∨ i = 17 ∨ i = 18 ∨ i = 19 ∨ i = 20 ∨ 21 ≤ i by omega) with rfl | rfl | rfl | rfl | rfl | hi
    · rw [ha']; rfl
    · rw [hb']; rfl
    · rw [hc']; rfl
    · rw [hd'']; rfl
    · rw [he']; rfl
    · rw [List.getElem?_eq_none (by omega), List.getElem?_eq_none (by simp; omega)]
theorem el_port {T SS : TypeId} (hT : fldsB P T = some [(SS, 0), (I, 1)]) (hs : sizeB P T = some 2) (hI : P.underlying I = some (.int .i64)) (hk : sizeB P I = some 1) (hSS : P.underlying SS = some (.slice S)) (hkSS : sizeB P SS = some 1) (hS : P.underlying S = some .string) (hkS : sizeB P S = some 1) (hbS : P.bytesOf S = 16)
    (ecs : List Value) (h : Rd enc P w T ecs) (_ : ecs.length = 2) : ∃ x, RPort w ecs x ∧ okPort x := by
  obtain ⟨hl, hf⟩ := h.struct hT hs
  obtain ⟨v, ms, hv, hsl, hok⟩ := (hf 0 SS 0 1 rfl hkSS).slice hSS hkS hbS (el_string hS)
  obtain ⟨b, hb, kb⟩ := (hf 1 I 1 1 rfl hk).int hI
  match ecs, hl with
  | [x, y], _ =>
    simp at hv hb
    subst hv; subst hb
    exact ⟨⟨ms, b⟩, ⟨_, rfl, hsl⟩, kb, hok⟩
end
end Go.Proofs.YtnhjohcgnmogaaaDoor
