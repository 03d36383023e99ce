/- For every input the law FerryQueuesInOrder returns true, and every argument reads behind the call as it read before it; the condition: the listed error variables are as the text lays them, which the card ties to the text. (written by wip/tools) -/
import Derived.Test.YtdglaodhmlocdaaDoorQueue
import Derived.Test.YtdglaodhmlocdaaDoorRead
import Derived.Test.YtdglaodhmlocdaaDoorGlob
import Derived.Test.YtdglaodhmlocdaaDoorCards
import Derived.Test.YtdglaodhmlocdaaDoorTie
import Derived.ChangeSame
import Derived.ChangeVars
import Derived.JoinedOf
import Derived.RowKit
import Derived.RowKitTokens
import Derived.LaidLaws
import Derived.LaidHandle
import Derived.LaidSub
import Derived.Stop.Joined
import Derived.SevenTiedAt
set_option linter.unusedVariables false
set_option linter.unusedSimpArgs false
set_option maxRecDepth 10000
namespace Go.Proofs.YtdglaodhmlocdaaDoor
open Go Go.RowKit
open Go.ChangeShapes Go.WideShapes Go.ChangeAt
theorem by9 : Tryd.prog.bytesOf 9 = 16 := by kernel_rfl
theorem sz87 : sizeB Tryd.prog 87 = some 1 := by kernel_rfl

theorem Tryd.own : ownKnob Tryd.prog.godebug = none := by kernel_rfl
theorem Tryd.laidOut : laidOutB Tryd.prog = true := by kernel_rfl
theorem Tryd.starE : "*" ++ "errors.errorString" = "*errors.errorString" := by decide
theorem Tryd.rowE (u : TypeId) (h : Tryd.prog.typeName? 3 u = some "*errors.errorString") : u = 198 :=
  typeName_ptr_named (nm := "errors.errorString") (by rw [Tryd.starE]; kernel_rfl) (by kernel_rfl) (by decide) u (by rw [Tryd.starE]; exact h)
theorem Tryd.cE : Tryd.prog.cellsOf 219 = 1 := by kernel_rfl
theorem Tryd.cS : Tryd.prog.cellsOf 9 = 1 := by kernel_rfl
def specs : List (String × Nat × List UInt8) := [("ferry/api.ErrRange", 3, [97, 32, 110, 117, 109, 98, 101, 114, 32, 111, 117, 116, 32, 111, 102, 32, 105, 116, 115, 32, 114, 97, 110, 103, 101]), ("ferry/api.ErrKind", 6, [110, 111, 32, 115, 117, 99, 104, 32, 107, 105, 110, 100]), ("ferry/api.ErrPlan", 7, [110, 111, 116, 32, 111, 102, 32, 116, 104, 105, 115, 32, 112, 108, 97, 110]), ("ferry/api.ErrState", 8, [116, 104, 101, 32, 115, 116, 97, 116, 101, 32, 98, 114, 101, 97, 107, 115, 32, 97, 32, 114, 117, 108, 101]), ("ferry/api.ErrSize", 11, [116, 111, 111, 32, 108, 97, 114, 103, 101]), ("ferry/api.ErrBusy", 16, [115, 111, 109, 101, 116, 104, 105, 110, 103, 32, 105, 115, 32, 117, 110, 100, 101, 114, 32, 119, 97, 121]), ("ferry/api.ErrNone", 12, [116, 104, 101, 114, 101, 32, 105, 115, 32, 110, 111, 110, 101])]
def setc (v : Value) : Obj → Obj
  | .cells _ t fr => .cells #[v] t fr
  | o => o
noncomputable def lowB : Nat := (World.holding Tryd.prog default ⟨#[], #[], []⟩).heap.size
noncomputable def laidWorld (os : Os) : World :=
  let w0 := World.holding Tryd.prog os ⟨#[.cells #[.string ⟨#[97, 32, 110, 117, 109, 98, 101, 114, 32, 111, 117, 116, 32, 111, 102, 32, 105, 116, 115, 32, 114, 97, 110, 103, 101]⟩] 219, .cells #[.string ⟨#[110, 111, 32, 115, 117, 99, 104, 32, 107, 105, 110, 100]⟩] 219, .cells #[.string ⟨#[110, 111, 116, 32, 111, 102, 32, 116, 104, 105, 115, 32, 112, 108, 97, 110]⟩] 219, .cells #[.string ⟨#[116, 104, 101, 32, 115, 116, 97, 116, 101, 32, 98, 114, 101, 97, 107, 115, 32, 97, 32, 114, 117, 108, 101]⟩] 219, .cells #[.string ⟨#[116, 111, 111, 32, 108, 97, 114, 103, 101]⟩] 219, .cells #[.string ⟨#[115, 111, 109, 101, 116, 104, 105, 110, 103, 32, 105, 115, 32, 117, 110, 100, 101, 114, 32, 119, 97, 121]⟩] 219, .cells #[.string ⟨#[116, 104, 101, 114, 101, 32, 105, 115, 32, 110, 111, 110, 101]⟩] 219], #[], []⟩
  { w0 with heap := (((((((w0.heap.modify 3 (setc (.iface 198 (.pointer (some ⟨lowB + 0, 0, none⟩))))).modify 6 (setc (.iface 198 (.pointer (some ⟨lowB + 1, 0, none⟩))))).modify 7 (setc (.iface 198 (.pointer (some ⟨lowB + 2, 0, none⟩))))).modify 8 (setc (.iface 198 (.pointer (some ⟨lowB + 3, 0, none⟩))))).modify 11 (setc (.iface 198 (.pointer (some ⟨lowB + 4, 0, none⟩))))).modify 16 (setc (.iface 198 (.pointer (some ⟨lowB + 5, 0, none⟩))))).modify 12 (setc (.iface 198 (.pointer (some ⟨lowB + 6, 0, none⟩))))) }
set_option maxRecDepth 100000 in
theorem laidWorld_met (os : Os) (args : Array Value) : laidMetH Tryd.prog Rows.ferryQueuesInOrderRow.laid ((laidWorld os).forCall (fun _ _ => 0) ⟨#[], args, []⟩).memory :=
  laidMetH_iff.2 ⟨laidMet_of_run (ps := [.cell 3 0, .cell (lowB + 0) 0, .cell 6 0, .cell (lowB + 1) 0, .cell 7 0, .cell (lowB + 2) 0, .cell 8 0, .cell (lowB + 3) 0, .cell 11 0, .cell (lowB + 4) 0, .cell 16 0, .cell (lowB + 5) 0, .cell 12 0, .cell (lowB + 6) 0]) 8 (by kernel_rfl) (by kernel_rfl) (by kernel_rfl), fun x hx => by cases hx⟩
theorem vars_of {W : World} (h : laidMetH Tryd.prog Rows.ferryQueuesInOrderRow.laid W) : ∃ A, GV 198 (specs.map (·.2.1)) A W := by
  obtain ⟨ps, h1, h2, h3⟩ := (laidMetH_iff.1 h).1
  obtain ⟨ads, hG, _⟩ := gw_laid (nm := "*errors.errorString") Tryd.underlying43 Tryd.rowE Tryd.underlying198 Tryd.underlying219 rfl rfl Tryd.underlying9 Tryd.cE Tryd.cS specs ps h1 h2 h3 (by
    intro x hx
    simp only [specs, List.mem_cons, List.not_mem_nil, or_false] at hx
    rcases hx with rfl | rfl | rfl | rfl | rfl | rfl | rfl
    all_goals exact ⟨by kernel_rfl, by kernel_rfl⟩)
  exact hG.f (by decide)
set_option maxRecDepth 100000 in
theorem ferryQueuesInOrder_lifted (os : Os) (started : os.Started) (H : Type) (enc : TypeId × Value → H) :
    ReturnsInHanded {} Tryd.checked os 9 .any (fun w args => (Rows.ferryQueuesInOrderSpec.pre enc Tryd.prog Tryd.f9 [] false w args ∧ laidMetH Tryd.prog Rows.ferryQueuesInOrderRow.laid w) ∧ sizedMet enc Tryd.prog Tryd.f9 (OpenSpec.ofChange Rows.ferryQueuesInOrderSpec) false w args)
      (Rows.ferryQueuesInOrderSpec.post enc Tryd.prog Tryd.f9 false true false false) := by
  refine returnsInHanded_of_change_and (C := Tryd.checked) (X := fun w _ => laidMetH Tryd.prog Rows.ferryQueuesInOrderRow.laid w) (fun _ _ _ hh h => h.of_heap hh) Tryd.own started (by kernel_rfl) Tryd.func9
    (ChangeSpec.witness_at (enc := enc) (C := Tryd.checked) (os := os) (X := fun w _ => laidMetH Tryd.prog Rows.ferryQueuesInOrderRow.laid w) false (laidWorld os) #[.int .i64 0, .int .i64 0, .slice none 0 0] 8 rfl (by kernel_rfl) (by kernel_rfl) (by kernel_rfl) (by kernel_rfl) (by kernel_rfl) (laidWorld_met os _)) ?_
  intro W base args ds gs before hval0 hW _ hsz0 hL _
  have hsz : (DataW.weightsEach Tryd.prog (Tryd.f9.params.toList ++ Rows.ferryQueuesInOrderSpec.plain.varTypes Tryd.prog) (ds ++ gs)).all (· ≤ reachBytes) = true := hsz0
  clear hsz0
  have hval : ∀ (j : Nat) t v, Tryd.f9.params[j]? = some t → args[j]? = some v → Value.okWide Tryd.prog W .any base t v := hval0
  have hW' := hW
  obtain ⟨p, q, hA0, hV, rfl, _, _⟩ := hW
  have hA : DataW.TrodAll enc Tryd.prog W 0 (fun _ => true) true Tryd.f9.params.toList args.toList ds p := hA0
  rw [Tryd.params9] at hA hval hsz
  obtain ⟨v0, v1, v2, d0, d1, d2, p0, p1, p2, rfl, rfl, rfl, h0, h1, h2⟩ := trodAll_three hA
  obtain ⟨rfl, rfl⟩ := trodVars_none hV
  clear hA0 hval0
  simp only [List.append_nil] at hW'
  have r0 := Rd.of (ts := _) (ds := _) (j := 0) h0 hsz rfl rfl
  obtain ⟨z0, hz0, kz0⟩ := r0.int Tryd.underlying3
  obtain ⟨zz0, rfl⟩ := okWide_int Tryd.underlying3 (hval 0 3 v0 rfl rfl)
  have q0 : [Value.int .i64 zz0] = [.int .i64 z0] := hz0
  obtain rfl : zz0 = z0 := by simpa using q0
  have r1 := Rd.of (ts := _) (ds := _) (j := 1) h1 hsz rfl rfl
  obtain ⟨z1, hz1, kz1⟩ := r1.int Tryd.underlying3
  obtain ⟨zz1, rfl⟩ := okWide_int Tryd.underlying3 (hval 1 3 v1 rfl rfl)
  have q1 : [Value.int .i64 zz1] = [.int .i64 z1] := hz1
  obtain rfl : zz1 = z1 := by simpa using q1
  have r2 := Rd.of (ts := _) (ds := _) (j := 2) h2 hsz rfl rfl
  obtain ⟨sv2, x2, hz2, hs2, kz2⟩ := r2.slice Tryd.underlying87 sz9 by9 (el_string Tryd.underlying9)
  obtain ⟨sa2, sl2, sc2, rfl⟩ := okWide_slice Tryd.underlying87 (hval 2 87 v2 rfl rfl)
  have q2 : [Value.slice sa2 sl2 sc2] = [sv2] := hz2
  obtain rfl : .slice sa2 sl2 sc2 = sv2 := (List.cons.inj q2).1
  have hlt0 : ∀ x ∈ p0, x.block < W.heap.size := fun x hx => hW'.lt x (by simp [hx])
  have ha0 : ∀ (W' : World), Below W.heap.size W W' → DataW.Trod enc Tryd.prog W' 0 (fun b => decide (b < W.heap.size)) true 3 _ d0 p0 :=
    fun W' hn => Below.trod Tryd.laidOut (by kernel_rfl) (of_decide_eq_true (by kernel_rfl)) h0 hn hlt0
  have hlt1 : ∀ x ∈ p1, x.block < W.heap.size := fun x hx => hW'.lt x (by simp [hx])
  have ha1 : ∀ (W' : World), Below W.heap.size W W' → DataW.Trod enc Tryd.prog W' 0 (fun b => decide (b < W.heap.size)) true 3 _ d1 p1 :=
    fun W' hn => Below.trod Tryd.laidOut (by kernel_rfl) (of_decide_eq_true (by kernel_rfl)) h1 hn hlt1
  have hlt2 : ∀ x ∈ p2, x.block < W.heap.size := fun x hx => hW'.lt x (by simp [hx])
  have ha2 : ∀ (W' : World), Below W.heap.size W W' → DataW.Trod enc Tryd.prog W' 0 (fun b => decide (b < W.heap.size)) true 87 _ d2 p2 :=
    fun W' hn => Below.trod Tryd.laidOut (by kernel_rfl) (of_decide_eq_true (by kernel_rfl)) h2 hn hlt2
  obtain ⟨A, hG⟩ := vars_of hL
  refine (queues_w (hG.sub (by decide)) hs2).mono fun e W' ⟨v, he, hv, hnx⟩ => ?_
  subst he; subst hv
  refine ⟨_, rfl, _, _, _, [], _, [], hW', ?_, trodAll_mk3 (ha0 _ hnx) (ha1 _ hnx) (ha2 _ hnx), rfl, hnx.frame _, fun h => by cases h⟩
  exact trodAll_mk1 (shut_bool Tryd.underlying4 true)
theorem ferryQueuesInOrder_holds : Rows.FerryQueuesInOrderSaid :=
  OpenClaim.holds_of_wide 9 Tryd.f9 rfl rfl rfl rfl rfl rfl rfl ⟨rfl, rfl, rfl, rfl, rfl⟩ rfl rfl rfl rfl rfl (by kernel_rfl) Tryd.func9 (by kernel_rfl)
    (of_decide_eq_true (by kernel_rfl)) (by unfold Func.isWrapper; first | (rw [if_pos (by decide +kernel)]; kernel_rfl) | (rw [if_neg (by decide +kernel)]; exact ⟨rfl, rfl⟩))
    (fun os started H enc _ => ferryQueuesInOrder_lifted os started H enc)
theorem ferryQueuesInOrder_card_holds : Rows.FerryQueuesInOrderCardSaid :=
  Claim7.holds_tied_plain_at .later [] [.sentinel, .sentinel, .sentinel, .sentinel, .sentinel, .sentinel, .sentinel] true (true, "ec9a0997c3e6389704ca6fd4cd13891571155a056f0c5d8f10f9650407966550") true
    ferryQueuesInOrder_holds (fun _ h => by cases h) (by kernel_rfl) (fun _ h => by cases h) ferryQueuesInOrder_row_tie rfl ⟨rfl, rfl⟩ (by kernel_rfl) rfl
    (fun f fn hf hfn => by
      obtain rfl : f = 9 := Option.some.inj ((show Tryd.prog.funcNamed "ferry/ferrytop.FerryQueuesInOrder" = some 9 by kernel_rfl).symm.trans hf) |>.symm
      obtain rfl : fn = Tryd.f9 := (Option.some.inj (Tryd.func9.symm.trans hfn)).symm
      exact ⟨by kernel_rfl, fun j t ht => by
        rw [Tryd.params9] at ht
        have hm : t ∈ [3, 3, 87] := List.mem_of_getElem? (by simpa using ht)
        simp only [List.mem_cons, List.not_mem_nil, or_false] at hm
        rcases hm with rfl | rfl | rfl
        all_goals exact (by kernel_rfl : Tryd.prog.wantsStandIn _ = false)⟩)
    (by kernel_rfl)
end Go.Proofs.YtdglaodhmlocdaaDoor
