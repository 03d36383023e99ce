/- The law WireMemory where what it reads is of bulk at most 1048576: it returns true, and the argument reads behind the call as it read before it; the listed variables are as the text lays them, which the card ties to the text. (written by wip/tools) -/
import Derived.Test.YtnhjohcgnmogaaaDoorWMem
import Derived.Test.YtnhjohcgnmogaaaDoorBulk
import Derived.Test.YtnhjohcgnmogaaaDoorGlob
import Derived.Test.YtnhjohcgnmogaaaDoorCards
import Derived.Test.YtnhjohcgnmogaaaDoorTie
import Derived.ChangeSame
import Derived.ChangeVars
import Derived.JoinedOf
import Derived.JoinedCond
import Derived.RowKit
import Derived.RowKitTokens
import Derived.LaidLaws
import Derived.LaidHandle
import Derived.LaidSub
import Derived.Stop.Joined
import Derived.SevenTiedAt
import Derived.Deep.DeepHandedRow
import Derived.OpenShut
set_option linter.unusedVariables false
set_option linter.unusedSimpArgs false
set_option maxRecDepth 10000
namespace Go.Proofs.YtnhjohcgnmogaaaDoor
open Go Go.RowKit
open Go.ChangeShapes Go.WideShapes Go.ChangeAt
theorem by102 : Tryd.prog.bytesOf 102 = 32 := by kernel_rfl
theorem by3 : Tryd.prog.bytesOf 3 = 8 := by kernel_rfl
theorem by5 : Tryd.prog.bytesOf 5 = 1 := by kernel_rfl
theorem fl102 : fldsB Tryd.prog 102 = some [(3, 0), (23, 1)] := by kernel_rfl
theorem fl26 : fldsB Tryd.prog 26 = some [(22, 0), (23, 1), (24, 2), (9, 3)] := by kernel_rfl

theorem ones_sumI : ∀ l : List Int, (l.map fun _ => 1).sum = l.length
  | [] => rfl
  | x :: r => by simp only [List.map_cons, List.sum_cons, List.length_cons, ones_sumI r]; omega
theorem ones_sum : ∀ l : List UInt8, (l.map fun _ => 1).sum = l.length
  | [] => rfl
  | x :: r => by simp only [List.map_cons, List.sum_cons, List.length_cons, ones_sum r]; omega
theorem elB_byte {H : Type} {enc : TypeId × Value → H} {w : World} (ecs : List Value) (c : Nat) (h : RdB enc Tryd.prog w 5 ecs c) (_ : ecs.length = 1) : ∃ x : UInt8, Flat eB w ecs x ∧ True ∧ 1 ≤ c := by
  have hp := h.pos
  obtain ⟨z, rfl, hz⟩ := h.rd.int Tryd.underlying5
  simp only [inK, Lit.wf, Bool.and_eq_true, decide_eq_true_eq] at hz
  have h1 : IntKind.u8.min = 0 := by decide
  have h2 : IntKind.u8.max = 255 := by decide
  exact ⟨byteOf z, (eB_lit (by omega) (by omega)).symm, trivial, hp⟩
theorem rd_bytes {H : Type} {enc : TypeId × Value → H} {w : World} {cs : List Value} {b : Nat} (h : RdB enc Tryd.prog w 23 cs b) : ∃ v, ∃ xs : List UInt8, cs = [v] ∧ SlR w 1 (Flat eB) v xs ∧ xs.length + 1 ≤ b := by
  obtain ⟨v, xs, hv, hs, _, hm⟩ := h.slice (m := fun _ : UInt8 => 1) Tryd.underlying23 sz5 by5 elB_byte
  rw [ones_sum] at hm
  exact ⟨v, xs, hv, hs.r, hm⟩
theorem elB_rec {H : Type} {enc : TypeId × Value → H} {w : World} (ecs : List Value) (c : Nat) (h : RdB enc Tryd.prog w 102 ecs c) (_ : ecs.length = 2) : ∃ r : RecM, Flat eRec w ecs r ∧ (SlR w 1 (Flat eB) r.q r.body) ∧ r.body.length + 3 ≤ c := by
  obtain ⟨hl, bs, hbl, hbs, hf⟩ := h.struct fl102 sz102
  obtain ⟨c0, hc0, r0⟩ := hf 0 3 0 1 rfl sz3
  obtain ⟨c1, hc1, r1⟩ := hf 1 23 1 1 rfl sz23
  have p0 := r0.pos
  obtain ⟨a0, e0, k0⟩ := r0.rd.int Tryd.underlying3
  obtain ⟨v, xs, e1, hs, hm⟩ := rd_bytes r1
  match ecs, hl with
  | [x0, x1], _ =>
    simp at e0 e1
    subst e0; subst e1
    refine ⟨⟨a0, x1, xs⟩, rfl, hs, ?_⟩
    match bs, hbl with
    | [b0, b1], _ =>
      simp at hc0 hc1 hbs
      show xs.length + 3 ≤ c
      omega
theorem elB_intT {H : Type} {enc : TypeId × Value → H} {w : World} (ecs : List Value) (c : Nat) (h : RdB enc Tryd.prog w 3 ecs c) (_ : ecs.length = 1) : ∃ x : Int, Flat eI w ecs x ∧ True ∧ 1 ≤ c := by
  obtain ⟨z, rfl, hz⟩ := h.rd.int Tryd.underlying3
  exact ⟨z, rfl, trivial, h.pos⟩
theorem rd_lists {H : Type} {enc : TypeId × Value → H} {w : World} {cs : List Value} {b : Nat} (h : RdB enc Tryd.prog w 26 cs b) : ∃ (vr vB : Value) (AT : Option Addr) (cT : Nat) (xs : List RecM) (bs : List UInt8) (tg : List Int) (s : ByteArray), cs = [vr, vB, .slice AT tg.length cT, .string s] ∧ SlR w 2 (Flat eRec) vr xs ∧ RecsIn w xs ∧ SlR w 1 (Flat eB) vB bs ∧ SlR w 1 (Flat eI) (.slice AT tg.length cT) tg ∧
    (xs.map fun r : RecM => r.body.length + 3).sum ≤ b ∧ bs.length ≤ b ∧ tg.length ≤ b ∧ s.size ≤ b := by
  obtain ⟨hl, bs, hbl, hbs, hf⟩ := h.struct fl26 sz26
  obtain ⟨c0, hc0, r0⟩ := hf 0 22 0 1 rfl sz22
  obtain ⟨c1, hc1, r1⟩ := hf 1 23 1 1 rfl sz23
  obtain ⟨c2, hc2, r2⟩ := hf 2 24 2 1 rfl sz24
  obtain ⟨c3, hc3, r3⟩ := hf 3 9 3 1 rfl sz9
  obtain ⟨v0, xs, e0, hs0, hok, hm0⟩ := r0.slice (m := fun r : RecM => r.body.length + 3) Tryd.underlying22 sz102 by102 elB_rec
  obtain ⟨v1, ys, e1, hs1, hm1⟩ := rd_bytes r1
  obtain ⟨v2, ts, e2, hs2, _, hm2⟩ := r2.slice (m := fun _ : Int => 1) Tryd.underlying24 sz3 by3 elB_intT
  obtain ⟨a3, e3, hm3⟩ := r3.string Tryd.underlying9
  obtain ⟨AT, cT, hv2, _⟩ := hs2.r.form
  rw [ones_sumI] at hm2
  have g0 := sum_get hc0
  have g2 := sum_get hc2
  have g1 := sum_get hc1
  have g3 := sum_get hc3
  match cs, hl with
  | [x0, x1, x2, x3], _ =>
    simp at e0 e1 e2 e3
    subst e0; subst e1; subst e2; subst e3; subst hv2
    exact ⟨x0, x1, AT, cT, xs, ys, ts, a3, rfl, hs0.r, hok, hs1, hs2.r, by omega, by omega, by omega, by omega⟩
theorem sum_memR {l : List RecM} {r : RecM} (h : r ∈ l) : r.body.length + 3 ≤ (l.map fun r : RecM => r.body.length + 3).sum := by
  induction l with
  | nil => cases h
  | cons x t ih =>
    rcases List.mem_cons.1 h with rfl | h
    · simp
    · have := ih h; simp only [List.map_cons, List.sum_cons]; omega
theorem sum_lenR : ∀ l : List RecM, l.length ≤ (l.map fun r : RecM => r.body.length + 3).sum
  | [] => Nat.zero_le _
  | x :: t => by have := sum_lenR t; simp only [List.map_cons, List.sum_cons, List.length_cons]; omega
theorem Tryd.own : ownKnob Tryd.prog.godebug = none := by kernel_rfl
theorem Tryd.laidOut : laidOutB Tryd.prog = true := by kernel_rfl
theorem Tryd.starE : "*" ++ "errors.errorString" = "*errors.errorString" := by decide
theorem Tryd.rowE (u : TypeId) (h : Tryd.prog.typeName? 3 u = some "*errors.errorString") : u = 253 :=
  typeName_ptr_named (nm := "errors.errorString") (by rw [Tryd.starE]; kernel_rfl) (by kernel_rfl) (by decide) u (by rw [Tryd.starE]; exact h)
theorem Tryd.cE : Tryd.prog.cellsOf 275 = 1 := by kernel_rfl
theorem Tryd.cS : Tryd.prog.cellsOf 9 = 1 := by kernel_rfl
def specs : List (String × Nat × List UInt8) := [("ferry/api.ErrShort", 1, [116, 104, 101, 32, 98, 121, 116, 101, 115, 32, 101, 110, 100, 32, 116, 111, 111, 32, 101, 97, 114, 108, 121]), ("ferry/api.ErrRest", 4, [115, 111, 109, 101, 116, 104, 105, 110, 103, 32, 105, 115, 32, 108, 101, 102, 116, 32, 111, 118, 101, 114]), ("ferry/api.ErrTag", 5, [97, 110, 111, 116, 104, 101, 114, 32, 116, 97, 103, 32, 105, 115, 32, 119, 97, 110, 116, 101, 100]), ("ferry/api.ErrRange", 6, [97, 32, 110, 117, 109, 98, 101, 114, 32, 111, 117, 116, 32, 111, 102, 32, 105, 116, 115, 32, 114, 97, 110, 103, 101]), ("ferry/api.ErrLength", 7, [97, 32, 108, 101, 110, 103, 116, 104, 32, 116, 104, 97, 116, 32, 105, 115, 110, 39, 116, 32, 116, 104, 101, 32, 116, 104, 105, 110, 103, 39, 115]), ("ferry/api.ErrSum", 2, [116, 104, 101, 32, 99, 104, 101, 99, 107, 32, 115, 117, 109, 32, 105, 115, 32, 119, 114, 111, 110, 103]), ("ferry/api.ErrKind", 8, [110, 111, 32, 115, 117, 99, 104, 32, 107, 105, 110, 100]), ("ferry/api.ErrPlan", 9, [110, 111, 116, 32, 111, 102, 32, 116, 104, 105, 115, 32, 112, 108, 97, 110]), ("ferry/api.ErrState", 10, [116, 104, 101, 32, 115, 116, 97, 116, 101, 32, 98, 114, 101, 97, 107, 115, 32, 97, 32, 114, 117, 108, 101]), ("ferry/api.ErrBase", 11, [110, 111, 116, 32, 111, 118, 101, 114, 32, 116, 104, 105, 115, 32, 98, 97, 115, 101]), ("ferry/api.ErrSize", 12, [116, 111, 111, 32, 108, 97, 114, 103, 101]), ("ferry/api.ErrArg", 3, [97, 32, 119, 114, 111, 110, 103, 32, 97, 114, 103, 117, 109, 101, 110, 116]), ("ferry/api.ErrEnd", 14, [97, 32, 99, 111, 117, 110, 116, 101, 114, 32, 105, 115, 32, 97, 116, 32, 105, 116, 115, 32, 101, 110, 100]), ("ferry/api.ErrBusy", 15, [115, 111, 109, 101, 116, 104, 105, 110, 103, 32, 105, 115, 32, 117, 110, 100, 101, 114, 32, 119, 97, 121]), ("ferry/api.ErrDown", 16, [116, 104, 101, 32, 109, 111, 100, 117, 108, 101, 32, 105, 115, 32, 100, 111, 119, 110]), ("ferry/api.ErrLost", 17, [116, 104, 101, 32, 112, 97, 114, 116, 105, 116, 105, 111, 110, 32, 105, 115, 32, 108, 111, 115, 116]), ("ferry/api.ErrNone", 18, [116, 104, 101, 114, 101, 32, 105, 115, 32, 110, 111, 110, 101]), ("ferry/api.ErrText", 0, [97, 32, 116, 101, 120, 116, 32, 116, 104, 97, 116, 32, 105, 115, 110, 39, 116, 32, 111, 102, 32, 116, 104, 101, 32, 108, 97, 110, 103, 117, 97, 103, 101]), ("ferry/api.ErrStop", 19, [99, 97, 110, 99, 101, 108, 108, 101, 100]), ("ferry/api.ErrDivide", 20, [100, 105, 118, 105, 115, 105, 111, 110, 32, 98, 121, 32, 122, 101, 114, 111])]
def setc (v : Value) : Obj → Obj
  | .cells _ t fr => .cells #[v] t fr
  | o => o
noncomputable def lowB : Nat := (World.holding Tryd.prog default ⟨#[], #[], []⟩).heap.size
noncomputable def laidWorld (os : Os) : World :=
  let w0 := World.holding Tryd.prog os ⟨#[.cells #[.string ⟨#[116, 104, 101, 32, 98, 121, 116, 101, 115, 32, 101, 110, 100, 32, 116, 111, 111, 32, 101, 97, 114, 108, 121]⟩] 275, .cells #[.string ⟨#[115, 111, 109, 101, 116, 104, 105, 110, 103, 32, 105, 115, 32, 108, 101, 102, 116, 32, 111, 118, 101, 114]⟩] 275, .cells #[.string ⟨#[97, 110, 111, 116, 104, 101, 114, 32, 116, 97, 103, 32, 105, 115, 32, 119, 97, 110, 116, 101, 100]⟩] 275, .cells #[.string ⟨#[97, 32, 110, 117, 109, 98, 101, 114, 32, 111, 117, 116, 32, 111, 102, 32, 105, 116, 115, 32, 114, 97, 110, 103, 101]⟩] 275, .cells #[.string ⟨#[97, 32, 108, 101, 110, 103, 116, 104, 32, 116, 104, 97, 116, 32, 105, 115, 110, 39, 116, 32, 116, 104, 101, 32, 116, 104, 105, 110, 103, 39, 115]⟩] 275, .cells #[.string ⟨#[116, 104, 101, 32, 99, 104, 101, 99, 107, 32, 115, 117, 109, 32, 105, 115, 32, 119, 114, 111, 110, 103]⟩] 275, .cells #[.string ⟨#[110, 111, 32, 115, 117, 99, 104, 32, 107, 105, 110, 100]⟩] 275, .cells #[.string ⟨#[110, 111, 116, 32, 111, 102, 32, 116, 104, 105, 115, 32, 112, 108, 97, 110]⟩] 275, .cells #[.string ⟨#[116, 104, 101, 32, 115, 116, 97, 116, 101, 32, 98, 114, 101, 97, 107, 115, 32, 97, 32, 114, 117, 108, 101]⟩] 275, .cells #[.string ⟨#[110, 111, 116, 32, 111, 118, 101, 114, 32, 116, 104, 105, 115, 32, 98, 97, 115, 101]⟩] 275, .cells #[.string ⟨#[116, 111, 111, 32, 108, 97, 114, 103, 101]⟩] 275, .cells #[.string ⟨#[97, 32, 119, 114, 111, 110, 103, 32, 97, 114, 103, 117, 109, 101, 110, 116]⟩] 275, .cells #[.string ⟨#[97, 32, 99, 111, 117, 110, 116, 101, 114, 32, 105, 115, 32, 97, 116, 32, 105, 116, 115, 32, 101, 110, 100]⟩] 275, .cells #[.string ⟨#[115, 111, 109, 101, 116, 104, 105, 110, 103, 32, 105, 115, 32, 117, 110, 100, 101, 114, 32, 119, 97, 121]⟩] 275, .cells #[.string ⟨#[116, 104, 101, 32, 109, 111, 100, 117, 108, 101, 32, 105, 115, 32, 100, 111, 119, 110]⟩] 275, .cells #[.string ⟨#[116, 104, 101, 32, 112, 97, 114, 116, 105, 116, 105, 111, 110, 32, 105, 115, 32, 108, 111, 115, 116]⟩] 275, .cells #[.string ⟨#[116, 104, 101, 114, 101, 32, 105, 115, 32, 110, 111, 110, 101]⟩] 275, .cells #[.string ⟨#[97, 32, 116, 101, 120, 116, 32, 116, 104, 97, 116, 32, 105, 115, 110, 39, 116, 32, 111, 102, 32, 116, 104, 101, 32, 108, 97, 110, 103, 117, 97, 103, 101]⟩] 275, .cells #[.string ⟨#[99, 97, 110, 99, 101, 108, 108, 101, 100]⟩] 275, .cells #[.string ⟨#[100, 105, 118, 105, 115, 105, 111, 110, 32, 98, 121, 32, 122, 101, 114, 111]⟩] 275], #[], []⟩
  { w0 with heap := (((((((((((((((((((((w0.heap.modify 1 (setc (.iface 253 (.pointer (some ⟨lowB + 0, 0, none⟩))))).modify 4 (setc (.iface 253 (.pointer (some ⟨lowB + 1, 0, none⟩))))).modify 5 (setc (.iface 253 (.pointer (some ⟨lowB + 2, 0, none⟩))))).modify 6 (setc (.iface 253 (.pointer (some ⟨lowB + 3, 0, none⟩))))).modify 7 (setc (.iface 253 (.pointer (some ⟨lowB + 4, 0, none⟩))))).modify 2 (setc (.iface 253 (.pointer (some ⟨lowB + 5, 0, none⟩))))).modify 8 (setc (.iface 253 (.pointer (some ⟨lowB + 6, 0, none⟩))))).modify 9 (setc (.iface 253 (.pointer (some ⟨lowB + 7, 0, none⟩))))).modify 10 (setc (.iface 253 (.pointer (some ⟨lowB + 8, 0, none⟩))))).modify 11 (setc (.iface 253 (.pointer (some ⟨lowB + 9, 0, none⟩))))).modify 12 (setc (.iface 253 (.pointer (some ⟨lowB + 10, 0, none⟩))))).modify 3 (setc (.iface 253 (.pointer (some ⟨lowB + 11, 0, none⟩))))).modify 14 (setc (.iface 253 (.pointer (some ⟨lowB + 12, 0, none⟩))))).modify 15 (setc (.iface 253 (.pointer (some ⟨lowB + 13, 0, none⟩))))).modify 16 (setc (.iface 253 (.pointer (some ⟨lowB + 14, 0, none⟩))))).modify 17 (setc (.iface 253 (.pointer (some ⟨lowB + 15, 0, none⟩))))).modify 18 (setc (.iface 253 (.pointer (some ⟨lowB + 16, 0, none⟩))))).modify 0 (setc (.iface 253 (.pointer (some ⟨lowB + 17, 0, none⟩))))).modify 19 (setc (.iface 253 (.pointer (some ⟨lowB + 18, 0, none⟩))))).modify 20 (setc (.iface 253 (.pointer (some ⟨lowB + 19, 0, none⟩))))).modify 21 (setc (.iface 179 (.agg #[.pointer (some ⟨25, 33, none⟩)])))) }
set_option maxRecDepth 100000 in
theorem laidWorld_met (os : Os) (args : Array Value) : laidMetH Tryd.prog Rows.wireMemoryUptoRow.laid ((laidWorld os).forCall (fun _ _ => 0) ⟨#[], args, []⟩).memory :=
  laidMetH_of_parts (laidMet_of_run (ps := [.cell 1 0, .cell (lowB + 0) 0, .cell 4 0, .cell (lowB + 1) 0, .cell 5 0, .cell (lowB + 2) 0, .cell 6 0, .cell (lowB + 3) 0, .cell 7 0, .cell (lowB + 4) 0, .cell 2 0, .cell (lowB + 5) 0, .cell 8 0, .cell (lowB + 6) 0, .cell 9 0, .cell (lowB + 7) 0, .cell 10 0, .cell (lowB + 8) 0, .cell 11 0, .cell (lowB + 9) 0, .cell 12 0, .cell (lowB + 10) 0, .cell 3 0, .cell (lowB + 11) 0, .cell 14 0, .cell (lowB + 12) 0, .cell 15 0, .cell (lowB + 13) 0, .cell 16 0, .cell (lowB + 14) 0, .cell 17 0, .cell (lowB + 15) 0, .cell 18 0, .cell (lowB + 16) 0, .cell 0 0, .cell (lowB + 17) 0, .cell 19 0, .cell (lowB + 18) 0, .cell 20 0, .cell (lowB + 19) 0]) 8 (by kernel_rfl) (by kernel_rfl) (by kernel_rfl)) (by kernel_rfl)
theorem vars_of {W : World} (h : laidMetH Tryd.prog Rows.wireMemoryUptoRow.laid W) : ∃ A, GV 253 (specs.map (·.2.1)) A W := by
  obtain ⟨ps, h1, h2, h3⟩ := (laidMetH_iff.1 h).1
  obtain ⟨ads, hG, _⟩ := gw_laid (nm := "*errors.errorString") Tryd.underlying33 Tryd.rowE Tryd.underlying253 Tryd.underlying275 rfl rfl Tryd.underlying9 Tryd.cE Tryd.cS specs ps h1 h2 h3 (by
    intro x hx
    simp only [specs, List.mem_cons, List.not_mem_nil, or_false] at hx
    rcases hx with rfl | rfl | rfl | rfl | rfl | rfl | rfl | rfl | rfl | rfl | rfl | rfl | rfl | rfl | rfl | rfl | rfl | rfl | rfl | rfl
    all_goals exact ⟨by kernel_rfl, by kernel_rfl⟩)
  exact hG.f (by decide)
theorem Tryd.rt : (Tryd.prog.cutTypes.find? (·.1 == "internal/reflectlite.rtype")).map (·.2) = some 179 := by kernel_rfl
theorem Tryd.oneRow : ((List.range 286).filter fun t => Tryd.prog.rowNamed t [101, 114, 114, 111, 114]) = [33] := by kernel_rfl
theorem Tryd.tsize : Tryd.prog.types.size = 286 := by kernel_rfl
theorem Tryd.etG : Tryd.prog.globalNamed "errors.errorType" = some 21 := by kernel_rfl
theorem handle_of {W : World} (h : laidMetH Tryd.prog Rows.wireMemoryUptoRow.laid W) : W.cell? ⟨21, 0, none⟩ = some (.iface 179 (.agg #[.pointer (some ⟨25, 33, none⟩)])) := by
  have hx := (laidMetH_iff.1 h).2 ("errors.errorType", Rows.laid_errors_errorType) (List.mem_filter.2 ⟨by unfold Rows.wireMemoryUptoRow; exact List.mem_cons_self, by kernel_rfl⟩)
  have hn : (Rows.laid_errors_errorType (H := Unit)).funcsIn? = none := by kernel_rfl
  simp only [hn] at hx
  obtain ⟨name, u, ty, e1, e2, e3, e4, e5⟩ := hx
  have en : name = [101, 114, 114, 111, 114] := (Option.some.inj ((show (Rows.laid_errors_errorType (H := Unit)).handleName? = some [101, 114, 114, 111, 114] by kernel_rfl).symm.trans e1)).symm
  subst en
  obtain rfl := Option.some.inj (Tryd.rt.symm.trans e2)
  have hm : ty ∈ (List.range 286).filter fun t => Tryd.prog.rowNamed t [101, 114, 114, 111, 114] := List.mem_filter.2 ⟨List.mem_range.2 (by rw [← Tryd.tsize]; exact e3), e4⟩
  rw [Tryd.oneRow] at hm
  obtain rfl := List.mem_singleton.1 hm
  have hh : typeHandle Tryd.prog 33 = .pointer (some ⟨25, 33, none⟩) := by kernel_rfl
  rw [hh] at e5
  simpa using World.var?_cell Tryd.etG e5 0
set_option maxRecDepth 100000 in
theorem wireMemoryUpto_reads (os : Os) {H : Type} (enc : TypeId × Value → H) : ∃ places, DataW.whole enc Tryd.prog ((laidWorld os).forCall (fun _ _ => 0) ⟨#[], #[.agg #[.slice none 0 0, .slice none 0 0, .slice none 0 0, .string ⟨#[]⟩]], []⟩).memory Tryd.f4.params.toList Rows.wireMemorySpec.vars false (#[.agg #[.slice none 0 0, .slice none 0 0, .slice none 0 0, .string ⟨#[]⟩]] : Array Value).toList 8 = some ([.agg [.nil, .nil, .nil, .lit (.string [])]], [], places) :=
  ⟨[], by kernel_rfl⟩
set_option maxRecDepth 100000 in
set_option maxHeartbeats 1000000 in
theorem wireMemoryUpto_lifted (os : Os) (started : os.Started) (H : Type) (enc : TypeId × Value → H) (F : Stop.Interp) :
    ReturnsInHanded {} Tryd.checked os 4 .any ((Rows.OpenSpec.upto Rows.wireMemorySpec).preRow enc Tryd.prog Tryd.f4 Rows.wireMemoryUptoRow.domain false Rows.wireMemoryUptoRow.laid) (((Rows.OpenSpec.upto Rows.wireMemorySpec).at F).post enc Tryd.prog Tryd.f4 false true false false) := by
  obtain ⟨places, hx⟩ := wireMemoryUpto_reads os enc
  refine returnsInHanded_of_row (C := Tryd.checked) (s := Rows.OpenSpec.upto Rows.wireMemorySpec) Tryd.own started (by kernel_rfl) Tryd.func4
    (witness_row_at (enc := enc) (C := Tryd.checked) false (laidWorld os) #[.agg #[.slice none 0 0, .slice none 0 0, .slice none 0 0, .string ⟨#[]⟩]] rfl (by kernel_rfl) (by kernel_rfl) (by kernel_rfl)
      (OpenSpec.preRow_of_cond 8 hx (by kernel_rfl) (fun k hk => by cases hk; kernel_rfl) (by kernel_rfl) (laidWorld_met os _))) ?_
  intro W base args ds gs before hval0 hW _ hcond hsz0 hL _ _
  have hsz : (DataW.weightsEach Tryd.prog (Tryd.f4.params.toList ++ Rows.wireMemorySpec.plain.varTypes Tryd.prog) (ds ++ gs)).all (· ≤ reachBytes) = true := hsz0
  have hsm := small_of (hcond _ rfl)
  clear hsz0 hcond
  have hval : ∀ (j : Nat) t v, Tryd.f4.params[j]? = some t → args[j]? = some v → Value.okWide Tryd.prog W .any base t v := hval0
  have hW' := hW
  obtain ⟨p, q, hA0, hV, rfl, _, _⟩ := hW
  have hA : DataW.TrodAll enc Tryd.prog W 0 (fun _ => true) true Tryd.f4.params.toList args.toList ds p := hA0
  rw [Tryd.params4] at hA hval hsz
  obtain ⟨v0, d0, rfl, rfl, h0⟩ := trodAll_one hA
  obtain ⟨rfl, rfl⟩ := trodVars_none hV
  clear hA0 hval0
  simp only [List.append_nil] at hW' hsm
  simp only [List.map_cons, List.map_nil, List.sum_cons, List.sum_nil] at hsm
  have r0 := RdB.of (ts := _) (ds := _) (j := 0) h0 hsz rfl rfl
  obtain ⟨cs0, rfl, _⟩ := okWide_struct Tryd.underlying26 (hval 0 26 v0 rfl rfl)
  obtain ⟨vr, vB, AT, cT, xs, bs, tg, s, hz0, hxr, hrr, hBr, hTr, hm1, hm2, hm4, hm3⟩ := rd_lists r0
  have hz1 : cs0.toList = [vr, vB, .slice AT tg.length cT, .string s] := hz0
  obtain rfl : cs0 = #[vr, vB, .slice AT tg.length cT, .string s] := by rw [← Array.toArray_toList (xs := cs0), hz1]
  have hlt0 : ∀ x ∈ p, x.block < W.heap.size := fun x hx => hW'.lt x (by simp [hx])
  have ha0 : ∀ (W' : World), Below W.heap.size W W' → DataW.Trod enc Tryd.prog W' 0 (fun b => decide (b < W.heap.size)) true 26 _ d0 p :=
    fun W' hn => Below.trod Tryd.laidOut (by kernel_rfl) (of_decide_eq_true (by kernel_rfl)) h0 hn hlt0
  obtain ⟨A, hG⟩ := vars_of hL
  have hH := handle_of hL
  refine (wireMemory_w (hG.sub (by decide)) hH hxr hrr hBr hTr (by have := sum_lenR xs; omega) (fun r hr => by have := sum_memR hr; omega) (by show ((xs.map fun r : RecM => r.body.length + 3).sum ≤ _); omega) (by omega) (by omega) (by omega)).mono fun e W' ⟨v, he, hv, hnx⟩ => ?_
  subst he; subst hv
  refine ⟨_, rfl, _, _, _, [], _, [], hW', ?_, trodAll_mk1 (ha0 _ hnx), rfl, hnx.frame _, fun h => by cases h⟩
  exact trodAll_mk1 (shut_bool Tryd.underlying4 true)
theorem wireMemoryUpto_f_inPlace : (Rows.wireMemoryUptoRow.inPlace == Tryd.pinned.checked.prog.inPlace 4) = true := by kernel_rfl
theorem wireMemoryUpto_f_unfollowed : (Rows.wireMemoryUptoRow.unfollowed == Tryd.pinned.checked.prog.unfollowed 4) = true := by kernel_rfl
theorem wireMemoryUpto_f_recurses : (Rows.wireMemoryUptoRow.recurses == Tryd.pinned.checked.prog.recurses 4) = true := by kernel_rfl
theorem wireMemoryUpto_f_named : (Rows.wireMemoryUptoRow.named == Tryd.pinned.checked.prog.varsNamed 4) = true := by kernel_rfl
theorem wireMemoryUpto_f_lifted : (Rows.wireMemoryUptoRow.lifted == Tryd.pinned.checked.prog.liftsFinal) = true := by kernel_rfl
theorem wireMemoryUpto_fClosed : joinedFacts Tryd.pinned.checked.prog 4 Tryd.f4 (Rows.OpenSpec.upto Rows.wireMemorySpec).bare Rows.wireMemoryUptoRow = true := by
  unfold joinedFacts
  rw [wireMemoryUpto_f_inPlace, wireMemoryUpto_f_unfollowed, wireMemoryUpto_f_recurses, wireMemoryUpto_f_named, wireMemoryUpto_f_lifted]
  kernel_rfl
theorem wireMemoryUpto_fNamed : Tryd.pinned.checked.prog.funcNamed Rows.wireMemoryUptoRow.func = some 4 := by kernel_rfl
theorem wireMemoryUpto_fInst : Tryd.f4.isInstance Tryd.pinned.checked.prog Rows.wireMemoryUptoRow.origin Rows.wireMemoryUptoRow.targs := of_decide_eq_true (by kernel_rfl)
theorem wireMemoryUpto_fWrap : Tryd.f4.isWrapper Tryd.pinned.checked.prog Rows.wireMemoryUptoRow.wrapper Rows.wireMemoryUptoRow.mainSum := by unfold Func.isWrapper; first | (rw [if_pos (by decide +kernel)]; kernel_rfl) | (rw [if_neg (by decide +kernel)]; exact ⟨rfl, rfl⟩)
theorem wireMemoryUpto_holds : Rows.WireMemoryUptoSaid :=
  OpenClaim.holds_of_cond 4 Tryd.f4 rfl rfl rfl rfl rfl rfl rfl ⟨rfl, rfl, rfl, rfl, rfl⟩ rfl rfl rfl rfl rfl wireMemoryUpto_fNamed Tryd.func4 wireMemoryUpto_fClosed
    wireMemoryUpto_fInst wireMemoryUpto_fWrap
    (fun os started H enc _ F => by rw [OpenClaim.pre_eq_preRow]; exact wireMemoryUpto_lifted os started H enc F)
theorem wireMemoryUpto_card_holds : Rows.WireMemoryUptoCardSaid :=
  Claim7.holds_tied_plain_at .later [] [.handle, .sentinel, .sentinel, .sentinel, .sentinel, .sentinel, .sentinel, .sentinel, .sentinel, .sentinel, .sentinel, .sentinel, .sentinel, .sentinel, .sentinel, .sentinel, .sentinel, .sentinel, .sentinel, .sentinel, .sentinel] true (true, "6c321c78301677330eaa2513a3dd332c1005522b39f1921b25468337daadf943") true
    wireMemoryUpto_holds (fun _ h => by cases h) (by kernel_rfl) (fun _ h => by cases h) wireMemoryUpto_row_tie rfl ⟨rfl, rfl⟩ (by kernel_rfl) rfl
    (fun f fn hf hfn => by
      obtain rfl : f = 4 := Option.some.inj ((show Tryd.prog.funcNamed "ferry/ferrylaw02.WireMemory" = some 4 by kernel_rfl).symm.trans hf) |>.symm
      obtain rfl : fn = Tryd.f4 := (Option.some.inj (Tryd.func4.symm.trans hfn)).symm
      exact ⟨by kernel_rfl, fun j t ht => by
        rw [Tryd.params4] at ht
        have hm : t ∈ [26] := List.mem_of_getElem? (by simpa using ht)
        simp only [List.mem_cons, List.not_mem_nil, or_false] at hm
        rcases hm with rfl
        all_goals exact (by kernel_rfl : Tryd.prog.wantsStandIn _ = false)⟩)
    (by kernel_rfl)
end Go.Proofs.YtnhjohcgnmogaaaDoor
