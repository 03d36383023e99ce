/- The law WireReads where what it reads is of bulk at most 1048576: it returns true, and the argument reads behind the call as it read before it; the listed variables are as the text lays them, which the card ties to the text. (written by wip/tools) -/
import Derived.Test.YtdglaodhmlocdaaDoorReads
import Derived.Test.YtdglaodhmlocdaaDoorBulk
import Derived.Test.YtdglaodhmlocdaaDoorGlob
import Derived.Test.YtdglaodhmlocdaaDoorCards
import Derived.Test.YtdglaodhmlocdaaDoorTie
import Derived.ChangeSame
import Derived.ChangeVars
import Derived.JoinedOf
import Derived.JoinedCond
import Derived.RowKit
import Derived.RowKitTokens
import Derived.LaidLaws
import Derived.LaidHandle
import Derived.LaidSub
import Derived.Stop.Joined
import Derived.SevenTiedAt
import Derived.Deep.DeepHandedRow
import Derived.OpenShut
set_option linter.unusedVariables false
set_option linter.unusedSimpArgs false
set_option maxRecDepth 10000
namespace Go.Proofs.YtdglaodhmlocdaaDoor
open Go Go.RowKit
open Go.ChangeShapes Go.WideShapes Go.ChangeAt
theorem by29 : Tryd.prog.bytesOf 29 = 64 := by kernel_rfl
theorem fl29 : fldsB Tryd.prog 29 = some [(3, 0), (4, 1), (3, 2), (3, 3), (3, 4), (3, 5), (9, 6)] := by kernel_rfl
theorem sz22 : sizeB Tryd.prog 22 = some 1 := by kernel_rfl
theorem sz4 : sizeB Tryd.prog 4 = some 1 := by kernel_rfl

theorem elB_op {H : Type} {enc : TypeId × Value → H} {w : World} (ecs : List Value) (c : Nat) (h : RdB enc Tryd.prog w 29 ecs c) (_ : ecs.length = 7) : ∃ x, Flat eOp w ecs x ∧ (x.n ≤ 9223372036854775807) ∧ x.s.size + 7 ≤ c := by
  obtain ⟨hl, bs, hbl, hbs, hf⟩ := h.struct fl29 sz29
  obtain ⟨c0, hc0, r0⟩ := hf 0 3 0 1 rfl sz3
  obtain ⟨c1, hc1, r1⟩ := hf 1 4 1 1 rfl sz4
  obtain ⟨c2, hc2, r2⟩ := hf 2 3 2 1 rfl sz3
  obtain ⟨c3, hc3, r3⟩ := hf 3 3 3 1 rfl sz3
  obtain ⟨c4, hc4, r4⟩ := hf 4 3 4 1 rfl sz3
  obtain ⟨c5, hc5, r5⟩ := hf 5 3 5 1 rfl sz3
  obtain ⟨c6, hc6, r6⟩ := hf 6 9 6 1 rfl sz9
  have p0 := r0.pos; have p1 := r1.pos; have p2 := r2.pos; have p3 := r3.pos; have p4 := r4.pos; have p5 := r5.pos
  obtain ⟨a0, e0, k0⟩ := r0.rd.int Tryd.underlying3
  obtain ⟨a1, e1⟩ := r1.rd.bool Tryd.underlying4
  obtain ⟨a2, e2, k2⟩ := r2.rd.int Tryd.underlying3
  obtain ⟨a3, e3, k3⟩ := r3.rd.int Tryd.underlying3
  obtain ⟨a4, e4, k4⟩ := r4.rd.int Tryd.underlying3
  obtain ⟨a5, e5, k5⟩ := r5.rd.int Tryd.underlying3
  obtain ⟨a6, e6, k6⟩ := r6.string Tryd.underlying9
  match ecs, hl with
  | [x0, x1, x2, x3, x4, x5, x6], _ =>
    simp at e0 e1 e2 e3 e4 e5 e6
    subst e0; subst e1; subst e2; subst e3; subst e4; subst e5; subst e6
    refine ⟨⟨a0, a1, a2, a3, a4, a5, a6⟩, rfl, inK_le k3, ?_⟩
    match bs, hbl with
    | [b0, b1, b2, b3, b4, b5, b6], _ =>
      simp at hc0 hc1 hc2 hc3 hc4 hc5 hc6 hbs
      show a6.size + 7 ≤ c
      omega
theorem sum_memO {l : List OpM} {o : OpM} (h : o ∈ l) : o.s.size + 7 ≤ (l.map fun o : OpM => o.s.size + 7).sum := by
  induction l with
  | nil => cases h
  | cons x r ih =>
    rcases List.mem_cons.1 h with rfl | h
    · simp
    · have := ih h; simp only [List.map_cons, List.sum_cons]; omega
theorem sum_lenO : ∀ l : List OpM, l.length ≤ (l.map fun o : OpM => o.s.size + 7).sum
  | [] => Nat.zero_le _
  | x :: r => by have := sum_lenO r; simp only [List.map_cons, List.sum_cons, List.length_cons]; omega
theorem Tryd.own : ownKnob Tryd.prog.godebug = none := by kernel_rfl
theorem Tryd.laidOut : laidOutB Tryd.prog = true := by kernel_rfl
theorem Tryd.starE : "*" ++ "errors.errorString" = "*errors.errorString" := by decide
theorem Tryd.rowE (u : TypeId) (h : Tryd.prog.typeName? 3 u = some "*errors.errorString") : u = 198 :=
  typeName_ptr_named (nm := "errors.errorString") (by rw [Tryd.starE]; kernel_rfl) (by kernel_rfl) (by decide) u (by rw [Tryd.starE]; exact h)
theorem Tryd.cE : Tryd.prog.cellsOf 219 = 1 := by kernel_rfl
theorem Tryd.cS : Tryd.prog.cellsOf 9 = 1 := by kernel_rfl
def specs : List (String × Nat × List UInt8) := [("ferry/api.ErrShort", 1, [116, 104, 101, 32, 98, 121, 116, 101, 115, 32, 101, 110, 100, 32, 116, 111, 111, 32, 101, 97, 114, 108, 121]), ("ferry/api.ErrRest", 0, [115, 111, 109, 101, 116, 104, 105, 110, 103, 32, 105, 115, 32, 108, 101, 102, 116, 32, 111, 118, 101, 114]), ("ferry/api.ErrTag", 2, [97, 110, 111, 116, 104, 101, 114, 32, 116, 97, 103, 32, 105, 115, 32, 119, 97, 110, 116, 101, 100]), ("ferry/api.ErrRange", 3, [97, 32, 110, 117, 109, 98, 101, 114, 32, 111, 117, 116, 32, 111, 102, 32, 105, 116, 115, 32, 114, 97, 110, 103, 101]), ("ferry/api.ErrLength", 4, [97, 32, 108, 101, 110, 103, 116, 104, 32, 116, 104, 97, 116, 32, 105, 115, 110, 39, 116, 32, 116, 104, 101, 32, 116, 104, 105, 110, 103, 39, 115]), ("ferry/api.ErrSum", 5, [116, 104, 101, 32, 99, 104, 101, 99, 107, 32, 115, 117, 109, 32, 105, 115, 32, 119, 114, 111, 110, 103]), ("ferry/api.ErrKind", 6, [110, 111, 32, 115, 117, 99, 104, 32, 107, 105, 110, 100]), ("ferry/api.ErrPlan", 7, [110, 111, 116, 32, 111, 102, 32, 116, 104, 105, 115, 32, 112, 108, 97, 110]), ("ferry/api.ErrState", 8, [116, 104, 101, 32, 115, 116, 97, 116, 101, 32, 98, 114, 101, 97, 107, 115, 32, 97, 32, 114, 117, 108, 101]), ("ferry/api.ErrBase", 9, [110, 111, 116, 32, 111, 118, 101, 114, 32, 116, 104, 105, 115, 32, 98, 97, 115, 101]), ("ferry/api.ErrSize", 11, [116, 111, 111, 32, 108, 97, 114, 103, 101]), ("ferry/api.ErrArg", 13, [97, 32, 119, 114, 111, 110, 103, 32, 97, 114, 103, 117, 109, 101, 110, 116]), ("ferry/api.ErrEnd", 15, [97, 32, 99, 111, 117, 110, 116, 101, 114, 32, 105, 115, 32, 97, 116, 32, 105, 116, 115, 32, 101, 110, 100]), ("ferry/api.ErrBusy", 16, [115, 111, 109, 101, 116, 104, 105, 110, 103, 32, 105, 115, 32, 117, 110, 100, 101, 114, 32, 119, 97, 121]), ("ferry/api.ErrDown", 17, [116, 104, 101, 32, 109, 111, 100, 117, 108, 101, 32, 105, 115, 32, 100, 111, 119, 110]), ("ferry/api.ErrLost", 18, [116, 104, 101, 32, 112, 97, 114, 116, 105, 116, 105, 111, 110, 32, 105, 115, 32, 108, 111, 115, 116]), ("ferry/api.ErrNone", 12, [116, 104, 101, 114, 101, 32, 105, 115, 32, 110, 111, 110, 101]), ("ferry/api.ErrText", 10, [97, 32, 116, 101, 120, 116, 32, 116, 104, 97, 116, 32, 105, 115, 110, 39, 116, 32, 111, 102, 32, 116, 104, 101, 32, 108, 97, 110, 103, 117, 97, 103, 101]), ("ferry/api.ErrStop", 19, [99, 97, 110, 99, 101, 108, 108, 101, 100]), ("ferry/api.ErrDivide", 20, [100, 105, 118, 105, 115, 105, 111, 110, 32, 98, 121, 32, 122, 101, 114, 111])]
def setc (v : Value) : Obj → Obj
  | .cells _ t fr => .cells #[v] t fr
  | o => o
noncomputable def lowB : Nat := (World.holding Tryd.prog default ⟨#[], #[], []⟩).heap.size
noncomputable def laidWorld (os : Os) : World :=
  let w0 := World.holding Tryd.prog os ⟨#[.cells #[.string ⟨#[116, 104, 101, 32, 98, 121, 116, 101, 115, 32, 101, 110, 100, 32, 116, 111, 111, 32, 101, 97, 114, 108, 121]⟩] 219, .cells #[.string ⟨#[115, 111, 109, 101, 116, 104, 105, 110, 103, 32, 105, 115, 32, 108, 101, 102, 116, 32, 111, 118, 101, 114]⟩] 219, .cells #[.string ⟨#[97, 110, 111, 116, 104, 101, 114, 32, 116, 97, 103, 32, 105, 115, 32, 119, 97, 110, 116, 101, 100]⟩] 219, .cells #[.string ⟨#[97, 32, 110, 117, 109, 98, 101, 114, 32, 111, 117, 116, 32, 111, 102, 32, 105, 116, 115, 32, 114, 97, 110, 103, 101]⟩] 219, .cells #[.string ⟨#[97, 32, 108, 101, 110, 103, 116, 104, 32, 116, 104, 97, 116, 32, 105, 115, 110, 39, 116, 32, 116, 104, 101, 32, 116, 104, 105, 110, 103, 39, 115]⟩] 219, .cells #[.string ⟨#[116, 104, 101, 32, 99, 104, 101, 99, 107, 32, 115, 117, 109, 32, 105, 115, 32, 119, 114, 111, 110, 103]⟩] 219, .cells #[.string ⟨#[110, 111, 32, 115, 117, 99, 104, 32, 107, 105, 110, 100]⟩] 219, .cells #[.string ⟨#[110, 111, 116, 32, 111, 102, 32, 116, 104, 105, 115, 32, 112, 108, 97, 110]⟩] 219, .cells #[.string ⟨#[116, 104, 101, 32, 115, 116, 97, 116, 101, 32, 98, 114, 101, 97, 107, 115, 32, 97, 32, 114, 117, 108, 101]⟩] 219, .cells #[.string ⟨#[110, 111, 116, 32, 111, 118, 101, 114, 32, 116, 104, 105, 115, 32, 98, 97, 115, 101]⟩] 219, .cells #[.string ⟨#[116, 111, 111, 32, 108, 97, 114, 103, 101]⟩] 219, .cells #[.string ⟨#[97, 32, 119, 114, 111, 110, 103, 32, 97, 114, 103, 117, 109, 101, 110, 116]⟩] 219, .cells #[.string ⟨#[97, 32, 99, 111, 117, 110, 116, 101, 114, 32, 105, 115, 32, 97, 116, 32, 105, 116, 115, 32, 101, 110, 100]⟩] 219, .cells #[.string ⟨#[115, 111, 109, 101, 116, 104, 105, 110, 103, 32, 105, 115, 32, 117, 110, 100, 101, 114, 32, 119, 97, 121]⟩] 219, .cells #[.string ⟨#[116, 104, 101, 32, 109, 111, 100, 117, 108, 101, 32, 105, 115, 32, 100, 111, 119, 110]⟩] 219, .cells #[.string ⟨#[116, 104, 101, 32, 112, 97, 114, 116, 105, 116, 105, 111, 110, 32, 105, 115, 32, 108, 111, 115, 116]⟩] 219, .cells #[.string ⟨#[116, 104, 101, 114, 101, 32, 105, 115, 32, 110, 111, 110, 101]⟩] 219, .cells #[.string ⟨#[97, 32, 116, 101, 120, 116, 32, 116, 104, 97, 116, 32, 105, 115, 110, 39, 116, 32, 111, 102, 32, 116, 104, 101, 32, 108, 97, 110, 103, 117, 97, 103, 101]⟩] 219, .cells #[.string ⟨#[99, 97, 110, 99, 101, 108, 108, 101, 100]⟩] 219, .cells #[.string ⟨#[100, 105, 118, 105, 115, 105, 111, 110, 32, 98, 121, 32, 122, 101, 114, 111]⟩] 219], #[], []⟩
  { w0 with heap := (((((((((((((((((((((w0.heap.modify 1 (setc (.iface 198 (.pointer (some ⟨lowB + 0, 0, none⟩))))).modify 0 (setc (.iface 198 (.pointer (some ⟨lowB + 1, 0, none⟩))))).modify 2 (setc (.iface 198 (.pointer (some ⟨lowB + 2, 0, none⟩))))).modify 3 (setc (.iface 198 (.pointer (some ⟨lowB + 3, 0, none⟩))))).modify 4 (setc (.iface 198 (.pointer (some ⟨lowB + 4, 0, none⟩))))).modify 5 (setc (.iface 198 (.pointer (some ⟨lowB + 5, 0, none⟩))))).modify 6 (setc (.iface 198 (.pointer (some ⟨lowB + 6, 0, none⟩))))).modify 7 (setc (.iface 198 (.pointer (some ⟨lowB + 7, 0, none⟩))))).modify 8 (setc (.iface 198 (.pointer (some ⟨lowB + 8, 0, none⟩))))).modify 9 (setc (.iface 198 (.pointer (some ⟨lowB + 9, 0, none⟩))))).modify 11 (setc (.iface 198 (.pointer (some ⟨lowB + 10, 0, none⟩))))).modify 13 (setc (.iface 198 (.pointer (some ⟨lowB + 11, 0, none⟩))))).modify 15 (setc (.iface 198 (.pointer (some ⟨lowB + 12, 0, none⟩))))).modify 16 (setc (.iface 198 (.pointer (some ⟨lowB + 13, 0, none⟩))))).modify 17 (setc (.iface 198 (.pointer (some ⟨lowB + 14, 0, none⟩))))).modify 18 (setc (.iface 198 (.pointer (some ⟨lowB + 15, 0, none⟩))))).modify 12 (setc (.iface 198 (.pointer (some ⟨lowB + 16, 0, none⟩))))).modify 10 (setc (.iface 198 (.pointer (some ⟨lowB + 17, 0, none⟩))))).modify 19 (setc (.iface 198 (.pointer (some ⟨lowB + 18, 0, none⟩))))).modify 20 (setc (.iface 198 (.pointer (some ⟨lowB + 19, 0, none⟩))))).modify 14 (setc (.iface 183 (.agg #[.pointer (some ⟨21, 43, none⟩)])))) }
set_option maxRecDepth 100000 in
theorem laidWorld_met (os : Os) (args : Array Value) : laidMetH Tryd.prog Rows.wireReadsUptoRow.laid ((laidWorld os).forCall (fun _ _ => 0) ⟨#[], args, []⟩).memory :=
  laidMetH_of_parts (laidMet_of_run (ps := [.cell 1 0, .cell (lowB + 0) 0, .cell 0 0, .cell (lowB + 1) 0, .cell 2 0, .cell (lowB + 2) 0, .cell 3 0, .cell (lowB + 3) 0, .cell 4 0, .cell (lowB + 4) 0, .cell 5 0, .cell (lowB + 5) 0, .cell 6 0, .cell (lowB + 6) 0, .cell 7 0, .cell (lowB + 7) 0, .cell 8 0, .cell (lowB + 8) 0, .cell 9 0, .cell (lowB + 9) 0, .cell 11 0, .cell (lowB + 10) 0, .cell 13 0, .cell (lowB + 11) 0, .cell 15 0, .cell (lowB + 12) 0, .cell 16 0, .cell (lowB + 13) 0, .cell 17 0, .cell (lowB + 14) 0, .cell 18 0, .cell (lowB + 15) 0, .cell 12 0, .cell (lowB + 16) 0, .cell 10 0, .cell (lowB + 17) 0, .cell 19 0, .cell (lowB + 18) 0, .cell 20 0, .cell (lowB + 19) 0]) 8 (by kernel_rfl) (by kernel_rfl) (by kernel_rfl)) (by kernel_rfl)
theorem vars_of {W : World} (h : laidMetH Tryd.prog Rows.wireReadsUptoRow.laid W) : ∃ A, GV 198 (specs.map (·.2.1)) A W := by
  obtain ⟨ps, h1, h2, h3⟩ := (laidMetH_iff.1 h).1
  obtain ⟨ads, hG, _⟩ := gw_laid (nm := "*errors.errorString") Tryd.underlying43 Tryd.rowE Tryd.underlying198 Tryd.underlying219 rfl rfl Tryd.underlying9 Tryd.cE Tryd.cS specs ps h1 h2 h3 (by
    intro x hx
    simp only [specs, List.mem_cons, List.not_mem_nil, or_false] at hx
    rcases hx with rfl | rfl | rfl | rfl | rfl | rfl | rfl | rfl | rfl | rfl | rfl | rfl | rfl | rfl | rfl | rfl | rfl | rfl | rfl | rfl
    all_goals exact ⟨by kernel_rfl, by kernel_rfl⟩)
  exact hG.f (by decide)
theorem Tryd.rt : (Tryd.prog.cutTypes.find? (·.1 == "internal/reflectlite.rtype")).map (·.2) = some 183 := by kernel_rfl
theorem Tryd.oneRow : ((List.range 231).filter fun t => Tryd.prog.rowNamed t [101, 114, 114, 111, 114]) = [43] := by kernel_rfl
theorem Tryd.tsize : Tryd.prog.types.size = 231 := by kernel_rfl
theorem Tryd.etG : Tryd.prog.globalNamed "errors.errorType" = some 14 := by kernel_rfl
theorem handle_of {W : World} (h : laidMetH Tryd.prog Rows.wireReadsUptoRow.laid W) : W.cell? ⟨14, 0, none⟩ = some (.iface 183 (.agg #[.pointer (some ⟨21, 43, none⟩)])) := by
  have hx := (laidMetH_iff.1 h).2 ("errors.errorType", Rows.laid_errors_errorType) (List.mem_filter.2 ⟨by unfold Rows.wireReadsUptoRow; exact List.mem_cons_self, by kernel_rfl⟩)
  have hn : (Rows.laid_errors_errorType (H := Unit)).funcsIn? = none := by kernel_rfl
  simp only [hn] at hx
  obtain ⟨name, u, ty, e1, e2, e3, e4, e5⟩ := hx
  have en : name = [101, 114, 114, 111, 114] := (Option.some.inj ((show (Rows.laid_errors_errorType (H := Unit)).handleName? = some [101, 114, 114, 111, 114] by kernel_rfl).symm.trans e1)).symm
  subst en
  obtain rfl := Option.some.inj (Tryd.rt.symm.trans e2)
  have hm : ty ∈ (List.range 231).filter fun t => Tryd.prog.rowNamed t [101, 114, 114, 111, 114] := List.mem_filter.2 ⟨List.mem_range.2 (by rw [← Tryd.tsize]; exact e3), e4⟩
  rw [Tryd.oneRow] at hm
  obtain rfl := List.mem_singleton.1 hm
  have hh : typeHandle Tryd.prog 43 = .pointer (some ⟨21, 43, none⟩) := by kernel_rfl
  rw [hh] at e5
  simpa using World.var?_cell Tryd.etG e5 0
set_option maxRecDepth 100000 in
theorem wireReadsUpto_reads (os : Os) {H : Type} (enc : TypeId × Value → H) : ∃ places, DataW.whole enc Tryd.prog ((laidWorld os).forCall (fun _ _ => 0) ⟨#[], #[.slice none 0 0], []⟩).memory Tryd.f5.params.toList Rows.wireReadsSpec.vars false (#[.slice none 0 0] : Array Value).toList 8 = some ([.nil], [], places) :=
  ⟨[], by kernel_rfl⟩
set_option maxRecDepth 100000 in
theorem wireReadsUpto_lifted (os : Os) (started : os.Started) (H : Type) (enc : TypeId × Value → H) (F : Stop.Interp) :
    ReturnsInHanded {} Tryd.checked os 5 .any ((Rows.OpenSpec.upto Rows.wireReadsSpec).preRow enc Tryd.prog Tryd.f5 Rows.wireReadsUptoRow.domain false Rows.wireReadsUptoRow.laid) (((Rows.OpenSpec.upto Rows.wireReadsSpec).at F).post enc Tryd.prog Tryd.f5 false true false false) := by
  obtain ⟨places, hx⟩ := wireReadsUpto_reads os enc
  refine returnsInHanded_of_row (C := Tryd.checked) (s := Rows.OpenSpec.upto Rows.wireReadsSpec) Tryd.own started (by kernel_rfl) Tryd.func5
    (witness_row_at (enc := enc) (C := Tryd.checked) false (laidWorld os) #[.slice none 0 0] rfl (by kernel_rfl) (by kernel_rfl) (by kernel_rfl)
      (OpenSpec.preRow_of_cond 8 hx (by kernel_rfl) (fun k hk => by cases hk; kernel_rfl) (by kernel_rfl) (laidWorld_met os _))) ?_
  intro W base args ds gs before hval0 hW _ hcond hsz0 hL _ _
  have hsz : (DataW.weightsEach Tryd.prog (Tryd.f5.params.toList ++ Rows.wireReadsSpec.plain.varTypes Tryd.prog) (ds ++ gs)).all (· ≤ reachBytes) = true := hsz0
  have hsm := small_of (hcond _ rfl)
  clear hsz0 hcond
  have hval : ∀ (j : Nat) t v, Tryd.f5.params[j]? = some t → args[j]? = some v → Value.okWide Tryd.prog W .any base t v := hval0
  have hW' := hW
  obtain ⟨p, q, hA0, hV, rfl, _, _⟩ := hW
  have hA : DataW.TrodAll enc Tryd.prog W 0 (fun _ => true) true Tryd.f5.params.toList args.toList ds p := hA0
  rw [Tryd.params5] at hA hval hsz
  obtain ⟨v0, d0, rfl, rfl, h0⟩ := trodAll_one hA
  obtain ⟨rfl, rfl⟩ := trodVars_none hV
  clear hA0 hval0
  simp only [List.append_nil] at hW' hsm
  simp only [List.map_cons, List.map_nil, List.sum_cons, List.sum_nil] at hsm
  have r0 := RdB.of (ts := _) (ds := _) (j := 0) h0 hsz rfl rfl
  obtain ⟨sv0, x0, hz0, hs0, kz0, mz0⟩ := r0.slice (m := (fun o : OpM => o.s.size + 7)) Tryd.underlying22 sz29 by29 (elB_op)
  obtain ⟨sa0, sl0, sc0, rfl⟩ := okWide_slice Tryd.underlying22 (hval 0 22 v0 rfl rfl)
  have q0 : [Value.slice sa0 sl0 sc0] = [sv0] := hz0
  obtain rfl : .slice sa0 sl0 sc0 = sv0 := (List.cons.inj q0).1
  have hlt0 : ∀ x ∈ p, x.block < W.heap.size := fun x hx => hW'.lt x (by simp [hx])
  have ha0 : ∀ (W' : World), Below W.heap.size W W' → DataW.Trod enc Tryd.prog W' 0 (fun b => decide (b < W.heap.size)) true 22 _ d0 p :=
    fun W' hn => Below.trod Tryd.laidOut (by kernel_rfl) (of_decide_eq_true (by kernel_rfl)) h0 hn hlt0
  obtain ⟨A, hG⟩ := vars_of hL
  have hH := handle_of hL
  refine (wireReads_w (hG.sub (by decide)) hH hs0.r (fun o ho => ⟨kz0 o ho, by have := sum_memO ho; omega⟩) (by have := sum_lenO x0; omega)).mono fun e W' ⟨v, he, hv, hnx⟩ => ?_
  subst he; subst hv
  refine ⟨_, rfl, _, _, _, [], _, [], hW', ?_, trodAll_mk1 (ha0 _ hnx), rfl, hnx.frame _, fun h => by cases h⟩
  exact trodAll_mk1 (shut_bool Tryd.underlying4 true)
theorem wireReadsUpto_holds : Rows.WireReadsUptoSaid :=
  OpenClaim.holds_of_cond 5 Tryd.f5 rfl rfl rfl rfl rfl rfl rfl ⟨rfl, rfl, rfl, rfl, rfl⟩ rfl rfl rfl rfl rfl (by kernel_rfl) Tryd.func5 (by kernel_rfl)
    (of_decide_eq_true (by kernel_rfl)) (by unfold Func.isWrapper; first | (rw [if_pos (by decide +kernel)]; kernel_rfl) | (rw [if_neg (by decide +kernel)]; exact ⟨rfl, rfl⟩))
    (fun os started H enc _ F => by rw [OpenClaim.pre_eq_preRow]; exact wireReadsUpto_lifted os started H enc F)
theorem wireReadsUpto_card_holds : Rows.WireReadsUptoCardSaid :=
  Claim7.holds_tied_plain_at .later [] [.handle, .sentinel, .sentinel, .sentinel, .sentinel, .sentinel, .sentinel, .sentinel, .sentinel, .sentinel, .sentinel, .sentinel, .sentinel, .sentinel, .sentinel, .sentinel, .sentinel, .sentinel, .sentinel, .sentinel, .sentinel] true (true, "ec9a0997c3e6389704ca6fd4cd13891571155a056f0c5d8f10f9650407966550") true
    wireReadsUpto_holds (fun _ h => by cases h) (by kernel_rfl) (fun _ h => by cases h) wireReadsUpto_row_tie rfl ⟨rfl, rfl⟩ (by kernel_rfl) rfl
    (fun f fn hf hfn => by
      obtain rfl : f = 5 := Option.some.inj ((show Tryd.prog.funcNamed "ferry/ferrylaw02.WireReads" = some 5 by kernel_rfl).symm.trans hf) |>.symm
      obtain rfl : fn = Tryd.f5 := (Option.some.inj (Tryd.func5.symm.trans hfn)).symm
      exact ⟨by kernel_rfl, fun j t ht => by
        rw [Tryd.params5] at ht
        have hm : t ∈ [22] := List.mem_of_getElem? (by simpa using ht)
        simp only [List.mem_cons, List.not_mem_nil, or_false] at hm
        rcases hm with rfl
        all_goals exact (by kernel_rfl : Tryd.prog.wantsStandIn _ = false)⟩)
    (by kernel_rfl)
end Go.Proofs.YtdglaodhmlocdaaDoor
