/- The law FerryBurstsTold: whatever the input, it returns true, and the argument reads behind the call as it read before it; the listed variables are as the text lays them, which the card ties to the text. (written by wip/tools) -/
import Derived.Test.YtnhjohcgnmogaaaDoorBtA
import Derived.Test.YtnhjohcgnmogaaaDoorTellLBt
import Derived.Test.YtnhjohcgnmogaaaDoorBtFact
import Derived.Test.YtnhjohcgnmogaaaDoorGlob
import Derived.Test.YtnhjohcgnmogaaaDoorCards
import Derived.Test.YtnhjohcgnmogaaaDoorTie
import Derived.ChangeSame
import Derived.ChangeVars
import Derived.JoinedOf
import Derived.JoinedCond
import Derived.RowKit
import Derived.RowKitTokens
import Derived.LaidLaws
import Derived.LaidHandle
import Derived.LaidSub
import Derived.Stop.Joined
import Derived.SevenTiedAt
import Derived.Deep.DeepHandedRow
import Derived.OpenShut
set_option linter.unusedVariables false
set_option linter.unusedSimpArgs false
set_option maxRecDepth 10000
namespace Go.Proofs.YtnhjohcgnmogaaaDoor
open Go Go.RowKit
open Go.ChangeShapes Go.WideShapes Go.ChangeAt
theorem by5 : Tryd.prog.bytesOf 5 = 1 := by kernel_rfl
theorem fl58 : fldsB Tryd.prog 58 = some [(23, 0), (3, 1), (56, 2), (3, 3)] := by kernel_rfl
theorem sz58 : sizeB Tryd.prog 58 = some 4 := by kernel_rfl

theorem elR_byte {H : Type} {enc : TypeId × Value → H} {w : World} (ecs : List Value) (h : Rd enc Tryd.prog w 5 ecs) (_ : ecs.length = 1) : ∃ x : UInt8, Flat eB w ecs x ∧ True := by
  obtain ⟨z, rfl, hz⟩ := h.int Tryd.underlying5
  simp only [inK, Lit.wf, Bool.and_eq_true, decide_eq_true_eq] at hz
  have h1 : IntKind.u8.min = 0 := by decide
  have h2 : IntKind.u8.max = 255 := by decide
  exact ⟨byteOf z, (eB_lit (by omega) (by omega)).symm, trivial⟩
def okGTopHurt (x : GTopHurt) : Prop := (x.B.length * 1 ≤ lim ∧ ∀ y0 ∈ x.B, True) ∧ inK .i64 x.At ∧ inK .u32 x.Mask ∧ inK .i64 x.Cut ∧ True
theorem rd_GTopHurt {H : Type} {enc : TypeId × Value → H} {w : World} {cs : List Value} (h : Rd enc Tryd.prog w 58 cs) : ∃ x : GTopHurt, RGTopHurt w cs x ∧ okGTopHurt x := by
  obtain ⟨hl, hf⟩ := h.struct fl58 sz58
  obtain ⟨v0, z0, h0, s0, k0⟩ := (hf 0 23 0 1 rfl sz23).slice Tryd.underlying23 sz5 by5 elR_byte
  obtain ⟨z1, h1, k1⟩ := (hf 1 3 1 1 rfl sz3).int Tryd.underlying3
  obtain ⟨z2, h2, k2⟩ := (hf 2 56 2 1 rfl sz56).int Tryd.underlying56
  obtain ⟨z3, h3, k3⟩ := (hf 3 3 3 1 rfl sz3).int Tryd.underlying3
  have e : cs = (cs.drop 0).take 1 ++ (cs.drop 1).take 1 ++ (cs.drop 2).take 1 ++ (cs.drop 3).take 1 := by
    match cs, hl with
    | [c0, c1, c2, c3], _ => rfl
  rw [h0, h1, h2, h3] at e
  exact ⟨⟨z0, z1, z2, z3⟩, ⟨v0, by rw [e]; rfl, s0.r⟩, ⟨s0.b, k0⟩, k1, k2, k3, trivial⟩
theorem top_told (x : GTopHurt) (ok : okGTopHurt x) : g_top_FerryBurstsTold x = some true := by
  obtain ⟨⟨h1, _⟩, h2, h3, h4, _⟩ := ok
  simp only [inK, Lit.wf, Bool.and_eq_true, decide_eq_true_eq] at h2 h3 h4
  have e1 : IntKind.u32.min = 0 := by decide
  have e2 : IntKind.u32.max = 4294967295 := by decide
  have e3 : IntKind.i64.min = -9223372036854775808 := by decide
  have e4 : IntKind.i64.max = 9223372036854775807 := by decide
  obtain ⟨m, hm⟩ := Int.eq_ofNat_of_zero_le (show 0 ≤ x.Mask by omega)
  have hl : lim = 140737488351232 := rfl
  exact told_law x m (by omega) hm (by omega) ⟨by omega, by omega⟩ ⟨by omega, by omega⟩
theorem Tryd.own : ownKnob Tryd.prog.godebug = none := by kernel_rfl
theorem Tryd.laidOut : laidOutB Tryd.prog = true := by kernel_rfl
theorem Tryd.starE : "*" ++ "errors.errorString" = "*errors.errorString" := by decide
theorem Tryd.rowE (u : TypeId) (h : Tryd.prog.typeName? 3 u = some "*errors.errorString") : u = 253 :=
  typeName_ptr_named (nm := "errors.errorString") (by rw [Tryd.starE]; kernel_rfl) (by kernel_rfl) (by decide) u (by rw [Tryd.starE]; exact h)
theorem Tryd.cE : Tryd.prog.cellsOf 275 = 1 := by kernel_rfl
theorem Tryd.cS : Tryd.prog.cellsOf 9 = 1 := by kernel_rfl
def specs : List (String × Nat × List UInt8) := [("ferry/api.ErrShort", 1, [116, 104, 101, 32, 98, 121, 116, 101, 115, 32, 101, 110, 100, 32, 116, 111, 111, 32, 101, 97, 114, 108, 121]), ("ferry/api.ErrRest", 4, [115, 111, 109, 101, 116, 104, 105, 110, 103, 32, 105, 115, 32, 108, 101, 102, 116, 32, 111, 118, 101, 114]), ("ferry/api.ErrTag", 5, [97, 110, 111, 116, 104, 101, 114, 32, 116, 97, 103, 32, 105, 115, 32, 119, 97, 110, 116, 101, 100]), ("ferry/api.ErrRange", 6, [97, 32, 110, 117, 109, 98, 101, 114, 32, 111, 117, 116, 32, 111, 102, 32, 105, 116, 115, 32, 114, 97, 110, 103, 101]), ("ferry/api.ErrLength", 7, [97, 32, 108, 101, 110, 103, 116, 104, 32, 116, 104, 97, 116, 32, 105, 115, 110, 39, 116, 32, 116, 104, 101, 32, 116, 104, 105, 110, 103, 39, 115]), ("ferry/api.ErrSum", 2, [116, 104, 101, 32, 99, 104, 101, 99, 107, 32, 115, 117, 109, 32, 105, 115, 32, 119, 114, 111, 110, 103]), ("ferry/api.ErrKind", 8, [110, 111, 32, 115, 117, 99, 104, 32, 107, 105, 110, 100]), ("ferry/api.ErrPlan", 9, [110, 111, 116, 32, 111, 102, 32, 116, 104, 105, 115, 32, 112, 108, 97, 110]), ("ferry/api.ErrState", 10, [116, 104, 101, 32, 115, 116, 97, 116, 101, 32, 98, 114, 101, 97, 107, 115, 32, 97, 32, 114, 117, 108, 101]), ("ferry/api.ErrBase", 11, [110, 111, 116, 32, 111, 118, 101, 114, 32, 116, 104, 105, 115, 32, 98, 97, 115, 101]), ("ferry/api.ErrSize", 12, [116, 111, 111, 32, 108, 97, 114, 103, 101]), ("ferry/api.ErrArg", 3, [97, 32, 119, 114, 111, 110, 103, 32, 97, 114, 103, 117, 109, 101, 110, 116]), ("ferry/api.ErrEnd", 14, [97, 32, 99, 111, 117, 110, 116, 101, 114, 32, 105, 115, 32, 97, 116, 32, 105, 116, 115, 32, 101, 110, 100]), ("ferry/api.ErrBusy", 15, [115, 111, 109, 101, 116, 104, 105, 110, 103, 32, 105, 115, 32, 117, 110, 100, 101, 114, 32, 119, 97, 121]), ("ferry/api.ErrDown", 16, [116, 104, 101, 32, 109, 111, 100, 117, 108, 101, 32, 105, 115, 32, 100, 111, 119, 110]), ("ferry/api.ErrLost", 17, [116, 104, 101, 32, 112, 97, 114, 116, 105, 116, 105, 111, 110, 32, 105, 115, 32, 108, 111, 115, 116]), ("ferry/api.ErrNone", 18, [116, 104, 101, 114, 101, 32, 105, 115, 32, 110, 111, 110, 101]), ("ferry/api.ErrText", 0, [97, 32, 116, 101, 120, 116, 32, 116, 104, 97, 116, 32, 105, 115, 110, 39, 116, 32, 111, 102, 32, 116, 104, 101, 32, 108, 97, 110, 103, 117, 97, 103, 101]), ("ferry/api.ErrStop", 19, [99, 97, 110, 99, 101, 108, 108, 101, 100]), ("ferry/api.ErrDivide", 20, [100, 105, 118, 105, 115, 105, 111, 110, 32, 98, 121, 32, 122, 101, 114, 111])]
def setc (v : Value) : Obj → Obj
  | .cells _ t fr => .cells #[v] t fr
  | o => o
noncomputable def lowB : Nat := (World.holding Tryd.prog default ⟨#[], #[], []⟩).heap.size
def setcs (vs : Array Value) : Obj → Obj
  | .cells _ t fr => .cells vs t fr
  | o => o
noncomputable def laidWorld (os : Os) : World :=
  let w0 := World.holding Tryd.prog os ⟨#[.cells #[.string ⟨#[116, 104, 101, 32, 98, 121, 116, 101, 115, 32, 101, 110, 100, 32, 116, 111, 111, 32, 101, 97, 114, 108, 121]⟩] 275, .cells #[.string ⟨#[115, 111, 109, 101, 116, 104, 105, 110, 103, 32, 105, 115, 32, 108, 101, 102, 116, 32, 111, 118, 101, 114]⟩] 275, .cells #[.string ⟨#[97, 110, 111, 116, 104, 101, 114, 32, 116, 97, 103, 32, 105, 115, 32, 119, 97, 110, 116, 101, 100]⟩] 275, .cells #[.string ⟨#[97, 32, 110, 117, 109, 98, 101, 114, 32, 111, 117, 116, 32, 111, 102, 32, 105, 116, 115, 32, 114, 97, 110, 103, 101]⟩] 275, .cells #[.string ⟨#[97, 32, 108, 101, 110, 103, 116, 104, 32, 116, 104, 97, 116, 32, 105, 115, 110, 39, 116, 32, 116, 104, 101, 32, 116, 104, 105, 110, 103, 39, 115]⟩] 275, .cells #[.string ⟨#[116, 104, 101, 32, 99, 104, 101, 99, 107, 32, 115, 117, 109, 32, 105, 115, 32, 119, 114, 111, 110, 103]⟩] 275, .cells #[.string ⟨#[110, 111, 32, 115, 117, 99, 104, 32, 107, 105, 110, 100]⟩] 275, .cells #[.string ⟨#[110, 111, 116, 32, 111, 102, 32, 116, 104, 105, 115, 32, 112, 108, 97, 110]⟩] 275, .cells #[.string ⟨#[116, 104, 101, 32, 115, 116, 97, 116, 101, 32, 98, 114, 101, 97, 107, 115, 32, 97, 32, 114, 117, 108, 101]⟩] 275, .cells #[.string ⟨#[110, 111, 116, 32, 111, 118, 101, 114, 32, 116, 104, 105, 115, 32, 98, 97, 115, 101]⟩] 275, .cells #[.string ⟨#[116, 111, 111, 32, 108, 97, 114, 103, 101]⟩] 275, .cells #[.string ⟨#[97, 32, 119, 114, 111, 110, 103, 32, 97, 114, 103, 117, 109, 101, 110, 116]⟩] 275, .cells #[.string ⟨#[97, 32, 99, 111, 117, 110, 116, 101, 114, 32, 105, 115, 32, 97, 116, 32, 105, 116, 115, 32, 101, 110, 100]⟩] 275, .cells #[.string ⟨#[115, 111, 109, 101, 116, 104, 105, 110, 103, 32, 105, 115, 32, 117, 110, 100, 101, 114, 32, 119, 97, 121]⟩] 275, .cells #[.string ⟨#[116, 104, 101, 32, 109, 111, 100, 117, 108, 101, 32, 105, 115, 32, 100, 111, 119, 110]⟩] 275, .cells #[.string ⟨#[116, 104, 101, 32, 112, 97, 114, 116, 105, 116, 105, 111, 110, 32, 105, 115, 32, 108, 111, 115, 116]⟩] 275, .cells #[.string ⟨#[116, 104, 101, 114, 101, 32, 105, 115, 32, 110, 111, 110, 101]⟩] 275, .cells #[.string ⟨#[97, 32, 116, 101, 120, 116, 32, 116, 104, 97, 116, 32, 105, 115, 110, 39, 116, 32, 111, 102, 32, 116, 104, 101, 32, 108, 97, 110, 103, 117, 97, 103, 101]⟩] 275, .cells #[.string ⟨#[99, 97, 110, 99, 101, 108, 108, 101, 100]⟩] 275, .cells #[.string ⟨#[100, 105, 118, 105, 115, 105, 111, 110, 32, 98, 121, 32, 122, 101, 114, 111]⟩] 275], #[], []⟩
  { w0 with heap := (((((((((((((((((((((w0.heap.modify 1 (setc (.iface 253 (.pointer (some ⟨lowB + 0, 0, none⟩))))).modify 4 (setc (.iface 253 (.pointer (some ⟨lowB + 1, 0, none⟩))))).modify 5 (setc (.iface 253 (.pointer (some ⟨lowB + 2, 0, none⟩))))).modify 6 (setc (.iface 253 (.pointer (some ⟨lowB + 3, 0, none⟩))))).modify 7 (setc (.iface 253 (.pointer (some ⟨lowB + 4, 0, none⟩))))).modify 2 (setc (.iface 253 (.pointer (some ⟨lowB + 5, 0, none⟩))))).modify 8 (setc (.iface 253 (.pointer (some ⟨lowB + 6, 0, none⟩))))).modify 9 (setc (.iface 253 (.pointer (some ⟨lowB + 7, 0, none⟩))))).modify 10 (setc (.iface 253 (.pointer (some ⟨lowB + 8, 0, none⟩))))).modify 11 (setc (.iface 253 (.pointer (some ⟨lowB + 9, 0, none⟩))))).modify 12 (setc (.iface 253 (.pointer (some ⟨lowB + 10, 0, none⟩))))).modify 3 (setc (.iface 253 (.pointer (some ⟨lowB + 11, 0, none⟩))))).modify 14 (setc (.iface 253 (.pointer (some ⟨lowB + 12, 0, none⟩))))).modify 15 (setc (.iface 253 (.pointer (some ⟨lowB + 13, 0, none⟩))))).modify 16 (setc (.iface 253 (.pointer (some ⟨lowB + 14, 0, none⟩))))).modify 17 (setc (.iface 253 (.pointer (some ⟨lowB + 15, 0, none⟩))))).modify 18 (setc (.iface 253 (.pointer (some ⟨lowB + 16, 0, none⟩))))).modify 0 (setc (.iface 253 (.pointer (some ⟨lowB + 17, 0, none⟩))))).modify 19 (setc (.iface 253 (.pointer (some ⟨lowB + 18, 0, none⟩))))).modify 20 (setc (.iface 253 (.pointer (some ⟨lowB + 19, 0, none⟩))))).modify 13 (setcs #[.int .u8 0, .int .u8 1, .int .u8 28, .int .u8 2, .int .u8 29, .int .u8 14, .int .u8 24, .int .u8 3, .int .u8 30, .int .u8 22, .int .u8 20, .int .u8 15, .int .u8 25, .int .u8 17, .int .u8 4, .int .u8 8, .int .u8 31, .int .u8 27, .int .u8 13, .int .u8 23, .int .u8 21, .int .u8 19, .int .u8 16, .int .u8 7, .int .u8 26, .int .u8 12, .int .u8 18, .int .u8 6, .int .u8 11, .int .u8 5, .int .u8 10, .int .u8 9])) }
set_option maxRecDepth 100000 in
theorem laidWorld_met (os : Os) (args : Array Value) : laidMetH Tryd.prog Rows.ferryBurstsToldRow.laid ((laidWorld os).forCall (fun _ _ => 0) ⟨#[], args, []⟩).memory :=
  laidMetH_iff.2 ⟨laidMet_of_run (ps := [.cell 13 0, .cell 13 1, .cell 13 2, .cell 13 3, .cell 13 4, .cell 13 5, .cell 13 6, .cell 13 7, .cell 13 8, .cell 13 9, .cell 13 10, .cell 13 11, .cell 13 12, .cell 13 13, .cell 13 14, .cell 13 15, .cell 13 16, .cell 13 17, .cell 13 18, .cell 13 19, .cell 13 20, .cell 13 21, .cell 13 22, .cell 13 23, .cell 13 24, .cell 13 25, .cell 13 26, .cell 13 27, .cell 13 28, .cell 13 29, .cell 13 30, .cell 13 31, .cell 1 0, .cell (lowB + 0) 0, .cell 4 0, .cell (lowB + 1) 0, .cell 5 0, .cell (lowB + 2) 0, .cell 6 0, .cell (lowB + 3) 0, .cell 7 0, .cell (lowB + 4) 0, .cell 2 0, .cell (lowB + 5) 0, .cell 8 0, .cell (lowB + 6) 0, .cell 9 0, .cell (lowB + 7) 0, .cell 10 0, .cell (lowB + 8) 0, .cell 11 0, .cell (lowB + 9) 0, .cell 12 0, .cell (lowB + 10) 0, .cell 3 0, .cell (lowB + 11) 0, .cell 14 0, .cell (lowB + 12) 0, .cell 15 0, .cell (lowB + 13) 0, .cell 16 0, .cell (lowB + 14) 0, .cell 17 0, .cell (lowB + 15) 0, .cell 18 0, .cell (lowB + 16) 0, .cell 0 0, .cell (lowB + 17) 0, .cell 19 0, .cell (lowB + 18) 0, .cell 20 0, .cell (lowB + 19) 0]) 8 (by kernel_rfl) (by kernel_rfl) (by kernel_rfl), fun x hx => by cases hx⟩
theorem vars_of {W : World} (h : laidMetH Tryd.prog Rows.ferryBurstsToldRow.laid W) : ∃ A, GV 253 (specs.map (·.2.1)) A W := by
  obtain ⟨ps, h1, h2, h3⟩ := (laidMetH_iff.1 h).1.filter (fun x => x.1 != "math/bits.deBruijn32tab")
  rw [show List.filter _ _ = specs.map (fun x => (x.1, .iface "*errors.errorString" (.ptr (.agg [.lit (.string x.2.2)])))) by kernel_rfl] at h1
  obtain ⟨ads, hG, _⟩ := gw_laid (nm := "*errors.errorString") Tryd.underlying33 Tryd.rowE Tryd.underlying253 Tryd.underlying275 rfl rfl Tryd.underlying9 Tryd.cE Tryd.cS specs ps h1 h2 h3 (by
    intro x hx
    simp only [specs, List.mem_cons, List.not_mem_nil, or_false] at hx
    rcases hx with rfl | rfl | rfl | rfl | rfl | rfl | rfl | rfl | rfl | rfl | rfl | rfl | rfl | rfl | rfl | rfl | rfl | rfl | rfl | rfl
    all_goals exact ⟨by kernel_rfl, by kernel_rfl⟩)
  exact hG.f (by decide)
theorem TV_of {W : World} (h : laidMetH Tryd.prog Rows.ferryBurstsToldRow.laid W) : TV W := by
  obtain ⟨ps, h1, _, _⟩ := ((laidMetH_iff.1 h).1).filter (fun x => x.1 == "math/bits.deBruijn32tab")
  rw [show List.filter _ _ = [("math/bits.deBruijn32tab", Rows.laid_math_bits_deBruijn32tab)] by kernel_rfl] at h1
  exact tab_laid (v := tab13) rfl Tryd.underlying153 Tryd.underlying5 sz5 (by kernel_rfl) (by kernel_rfl) h1
set_option maxRecDepth 100000 in
set_option maxHeartbeats 1000000 in
theorem ferryBurstsTold_lifted (os : Os) (started : os.Started) (H : Type) (enc : TypeId × Value → H) :
    ReturnsInHanded {} Tryd.checked os 5 .any (fun w args => (Rows.ferryBurstsToldSpec.pre enc Tryd.prog Tryd.f5 [] false w args ∧ laidMetH Tryd.prog Rows.ferryBurstsToldRow.laid w) ∧ sizedMet enc Tryd.prog Tryd.f5 (OpenSpec.ofChange Rows.ferryBurstsToldSpec) false w args)
      (Rows.ferryBurstsToldSpec.post enc Tryd.prog Tryd.f5 false true false false) := by
  refine returnsInHanded_of_change_and (C := Tryd.checked) (X := fun w _ => laidMetH Tryd.prog Rows.ferryBurstsToldRow.laid w) (fun _ _ _ hh h => h.of_heap hh) Tryd.own started (by kernel_rfl) Tryd.func5
    (ChangeSpec.witness_at (enc := enc) (C := Tryd.checked) (os := os) (X := fun w _ => laidMetH Tryd.prog Rows.ferryBurstsToldRow.laid w) false (laidWorld os) #[.agg #[.slice none 0 0, .int .i64 0, .int .u32 0, .int .i64 0]] 8 rfl (by kernel_rfl) (by kernel_rfl) (by kernel_rfl) (by kernel_rfl) (by kernel_rfl) (laidWorld_met os _)) ?_
  intro W base args ds gs before hval0 hW _ hsz0 hL _
  have hsz : (DataW.weightsEach Tryd.prog (Tryd.f5.params.toList ++ Rows.ferryBurstsToldSpec.plain.varTypes Tryd.prog) (ds ++ gs)).all (· ≤ reachBytes) = true := hsz0
  clear hsz0
  have hval : ∀ (j : Nat) t v, Tryd.f5.params[j]? = some t → args[j]? = some v → Value.okWide Tryd.prog W .any base t v := hval0
  have hW' := hW
  obtain ⟨p, q, hA0, hV, rfl, _, _⟩ := hW
  have hA : DataW.TrodAll enc Tryd.prog W 0 (fun _ => true) true Tryd.f5.params.toList args.toList ds p := hA0
  rw [Tryd.params5] at hA hval hsz
  obtain ⟨v0, d0, rfl, rfl, h0⟩ := trodAll_one hA
  obtain ⟨rfl, rfl⟩ := trodVars_none hV
  clear hA0 hval0
  simp only [List.append_nil] at hW'
  have r0 := Rd.of (ts := _) (ds := _) (j := 0) h0 hsz rfl rfl
  obtain ⟨ar0, rfl, _⟩ := okWide_struct Tryd.underlying58 (hval 0 58 v0 rfl rfl)
  obtain ⟨cs0, rfl⟩ : ∃ l : List Value, ar0 = l.toArray := ⟨ar0.toList, by simp⟩
  obtain ⟨x0, hx0, ok0⟩ := rd_GTopHurt (cs := cs0) r0
  have hlt0 : ∀ x ∈ p, x.block < W.heap.size := fun x hx => hW'.lt x (by simp [hx])
  have ha0 : ∀ (W' : World), Below W.heap.size W W' → DataW.Trod enc Tryd.prog W' 0 (fun b => decide (b < W.heap.size)) true 58 _ d0 p :=
    fun W' hn => Below.trod Tryd.laidOut (by kernel_rfl) (of_decide_eq_true (by kernel_rfl)) h0 hn hlt0
  obtain ⟨A, hG⟩ := vars_of hL
  refine (g_top_FerryBurstsTold_w (A := A) (hG.sub (by decide)) (TV_of hL) hx0 (top_told x0 ok0)).mono fun e W' ⟨v, he, hv, hnx⟩ => ?_
  subst he; subst hv
  refine ⟨_, rfl, _, _, _, [], _, [], hW', ?_, trodAll_mk1 (ha0 _ hnx), rfl, hnx.frame _, fun h => by cases h⟩
  exact trodAll_mk1 (shut_bool Tryd.underlying4 true)
theorem ferryBurstsTold_holds : Rows.FerryBurstsToldSaid :=
  OpenClaim.holds_of_wide 5 Tryd.f5 rfl rfl rfl rfl rfl rfl rfl ⟨rfl, rfl, rfl, rfl, rfl⟩ rfl rfl rfl rfl rfl ferryBurstsTold_fNamed Tryd.func5 ferryBurstsTold_fClosed
    ferryBurstsTold_fInst ferryBurstsTold_fWrap
    (fun os started H enc _ => ferryBurstsTold_lifted os started H enc)
theorem ferryBurstsTold_card_holds : Rows.FerryBurstsToldCardSaid :=
  Claim7.holds_tied_plain_at .later [] [.data, .sentinel, .sentinel, .sentinel, .sentinel, .sentinel, .sentinel, .sentinel, .sentinel, .sentinel, .sentinel, .sentinel, .sentinel, .sentinel, .sentinel, .sentinel, .sentinel, .sentinel, .sentinel, .sentinel, .sentinel] true (true, "6c321c78301677330eaa2513a3dd332c1005522b39f1921b25468337daadf943") true
    ferryBurstsTold_holds (fun _ h => by cases h) (by kernel_rfl) (fun _ h => by cases h) ferryBurstsTold_row_tie rfl ⟨rfl, rfl⟩ (by kernel_rfl) rfl
    (fun f fn hf hfn => by
      obtain rfl : f = 5 := Option.some.inj ((show Tryd.prog.funcNamed "ferry/ferrytop.FerryBurstsTold" = some 5 by kernel_rfl).symm.trans hf) |>.symm
      obtain rfl : fn = Tryd.f5 := (Option.some.inj (Tryd.func5.symm.trans hfn)).symm
      exact ⟨by kernel_rfl, fun j t ht => by
        rw [Tryd.params5] at ht
        have hm : t ∈ [58] := List.mem_of_getElem? (by simpa using ht)
        simp only [List.mem_cons, List.not_mem_nil, or_false] at hm
        rcases hm with rfl
        all_goals exact (by kernel_rfl : Tryd.prog.wantsStandIn _ = false)⟩)
    (by kernel_rfl)
end Go.Proofs.YtnhjohcgnmogaaaDoor
