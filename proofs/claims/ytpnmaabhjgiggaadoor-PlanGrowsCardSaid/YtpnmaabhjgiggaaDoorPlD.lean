/- Pl (written by wip/tools) -/
import Derived.Test.YtpnmaabhjgiggaaDoorErrW
import Derived.Test.YtpnmaabhjgiggaaDoorPtr
set_option linter.unusedVariables false
set_option linter.unusedSimpArgs false
set_option maxRecDepth 10000
namespace Go.Proofs.YtpnmaabhjgiggaaDoor
open Go Go.RowKit
theorem ag4 : aggB Tryd.prog 4 = some false := by kernel_rfl
theorem ag9 : aggB Tryd.prog 9 = some false := by kernel_rfl
theorem st41 : structB Tryd.prog 41 = some [(3, 0), (9, 1)] := by kernel_rfl
theorem st43 : structB Tryd.prog 43 = some [(3, 0), (3, 1), (4, 2)] := by kernel_rfl
theorem st70 : structB Tryd.prog 70 = some [(3, 0), (3, 1), (3, 2), (3, 3)] := by kernel_rfl

abbrev gShort : Nat := 2
abbrev gRest : Nat := 3
abbrev gTag : Nat := 4
abbrev gRange : Nat := 1
abbrev gLength : Nat := 5
abbrev gSum : Nat := 6
abbrev gKind : Nat := 7
abbrev gPlan : Nat := 0
abbrev gState : Nat := 8
abbrev gBase : Nat := 9
abbrev gSize : Nat := 10
abbrev gArg : Nat := 11
abbrev gEnd : Nat := 12
abbrev gBusy : Nat := 13
abbrev gDown : Nat := 14
abbrev gLost : Nat := 15
abbrev gNone : Nat := 16
abbrev gText : Nat := 17
abbrev gStop : Nat := 18
abbrev gDivide : Nat := 19
abbrev erQ (A : Nat → Addr) (u : Value) (e : ErrM) : Rs := anyR fun w => IsE A w u e
section
variable {fp : Nat → Prop} {w0 w : World} {rs : List Rs} {A : Nat → Addr} {b g : Nat} {p : Int}
theorem St.dAt (hg : g ∈ gAll) (h : St fp w0 w (blkR b [.int .i64 p, sv 151 A g] 81 :: rs)) : St fp w0 w (erQ A (.iface 77 (.pointer (some ⟨b, 0, none⟩))) (.pl p g) :: rs) := h.blkAny (fun w' h => IsErr.mk hg h)
theorem St.dVar (hg : g ∈ gAll) (h : St fp w0 w rs) : St fp w0 w (erQ A (sv 151 A g) (.v g) :: rs) := h.trivAny fun w' => ⟨hg, rfl⟩
theorem St.dAtE {r e : ErrM} {u : Value} {w2 : World} (hI : IsE A w2 u e) (he : errAt p e = some r) (h : St fp w0 w (blkR b [.int .i64 p, u] 81 :: rs)) : St fp w0 w (erQ A (.iface 77 (.pointer (some ⟨b, 0, none⟩))) r :: rs) := by
  obtain ⟨g, rfl, rfl⟩ := errAt_some he
  obtain ⟨hg, rfl⟩ := hI
  exact h.dAt hg
theorem St.dNil (h : St fp w0 w rs) : St fp w0 w (erQ A .nilIface .nil :: rs) := h.trivAny fun w' => rfl
end
structure GPagePlan where
  Rights : Int
  Init : ByteArray
  deriving DecidableEq
def eGPagePlan (x : GPagePlan) : List Value := [.int .i64 x.Rights, .string x.Init]
theorem eGPagePlan_len (x : GPagePlan) : (eGPagePlan x).length = 2 := by simp [eGPagePlan]
theorem eGPagePlan_one (x : GPagePlan) : ∀ u ∈ eGPagePlan x, u.oneCell' = true := by
  intro u hu
  simp only [eGPagePlan, List.mem_append, List.mem_cons, List.mem_map, List.not_mem_nil, or_false] at hu
  rcases hu with rfl | rfl <;> rfl
structure GProcPlan where
  Entry : Int
  Prio : Int
  Auto : Bool
  deriving DecidableEq
def eGProcPlan (x : GProcPlan) : List Value := [.int .i64 x.Entry, .int .i64 x.Prio, .bool x.Auto]
theorem eGProcPlan_len (x : GProcPlan) : (eGProcPlan x).length = 3 := by simp [eGProcPlan]
theorem eGProcPlan_one (x : GProcPlan) : ∀ u ∈ eGProcPlan x, u.oneCell' = true := by
  intro u hu
  simp only [eGProcPlan, List.mem_append, List.mem_cons, List.mem_map, List.not_mem_nil, or_false] at hu
  rcases hu with rfl | rfl | rfl <;> rfl
structure GPortPlan where
  Kind : Int
  Size : Int
  Depth : Int
  Refresh : Int
  deriving DecidableEq
def eGPortPlan (x : GPortPlan) : List Value := [.int .i64 x.Kind, .int .i64 x.Size, .int .i64 x.Depth, .int .i64 x.Refresh]
theorem eGPortPlan_len (x : GPortPlan) : (eGPortPlan x).length = 4 := by simp [eGPortPlan]
theorem eGPortPlan_one (x : GPortPlan) : ∀ u ∈ eGPortPlan x, u.oneCell' = true := by
  intro u hu
  simp only [eGPortPlan, List.mem_append, List.mem_cons, List.mem_map, List.not_mem_nil, or_false] at hu
  rcases hu with rfl | rfl | rfl | rfl <;> rfl
structure GPlan where
  Id : Int
  Mobile : Bool
  Pages : List GPagePlan
  Procs : List GProcPlan
  Ports : List GPortPlan
  Events : Int
  Sems : List Int
  deriving DecidableEq
def RGPlan (w : World) (cs : List Value) (x : GPlan) : Prop := ∃ v0 v1 v2 v3, cs = [.int .i64 x.Id, .bool x.Mobile, v0, v1, v2, .int .i64 x.Events, v3] ∧ SlR w 2 (Flat eGPagePlan) v0 x.Pages ∧ SlR w 3 (Flat eGProcPlan) v1 x.Procs ∧ SlR w 4 (Flat eGPortPlan) v2 x.Ports ∧ SlR w 1 (Flat eI) v3 x.Sems
theorem RGPlan.mono : Mono RGPlan := by
  intro w w' cs x e h
  obtain ⟨v0, v1, v2, v3, rfl, h0, h1, h2, h3⟩ := h
  exact ⟨v0, v1, v2, v3, rfl, h0.agr (Flat.mono _) e, h1.agr (Flat.mono _) e, h2.agr (Flat.mono _) e, h3.agr (Flat.mono _) e⟩
noncomputable def g_law10_small : Option GPlan := some (⟨3, true, [(⟨5, ⟨#[97, 98]⟩⟩ : GPagePlan), (⟨3, ⟨#[]⟩⟩ : GPagePlan)], [(⟨0, 7, true⟩ : GProcPlan), (⟨64, 9, false⟩ : GProcPlan)], [(⟨1, 4, 1, 2⟩ : GPortPlan), (⟨4, 8, 2, 0⟩ : GPortPlan)], 1, [2]⟩ : GPlan)
noncomputable def g_plan_at (a0 : Int) (a1 : ErrM) : Option ErrM := (errAt a0 a1).bind fun r24 => some r24
noncomputable def g_plan_checkPages_L1 (a0 : GPlan) : Nat → Option (Nat ⊕ (Unit ⊕ ErrM)) := fun i28 => (bif decide (i28 < a0.Pages.length) then (a0.Pages[i28]?).bind fun x32 => (bif (decide (x32.Rights < 0) || decide (7 < x32.Rights)) then (g_plan_at ((i28 : Nat) : Int) (.v gRange)).bind fun r39 => some (.inr (.inr r39)) else (bif decide (64 < x32.Init.size) then (g_plan_at ((i28 : Nat) : Int) (.v gLength)).bind fun r46 => some (.inr (.inr r46)) else some (.inl (i28 + 1)))) else some (.inr (.inl ())))
noncomputable def g_plan_checkPages (a0 : GPlan) : Option ErrM := (bif (decide (a0.Pages.length < 1) || decide (32 < a0.Pages.length)) then some (.v gSize) else (iter (g_plan_checkPages_L1 a0) 0).bind (fun q => match q with | .inl _ => some .nil | .inr p => some p))
noncomputable def g_plan_checkProcs_J6 (i28 : Nat) : Bool → Option (Nat ⊕ (Unit ⊕ ErrM)) := fun q539 => (bif q539 then (g_plan_at ((i28 : Nat) : Int) (.v gRange)).bind fun r547 => some (.inr (.inr r547)) else some (.inl (i28 + 1)))
noncomputable def g_plan_checkProcs_L7 (a0 : GPlan) : Nat → Option (Nat ⊕ (Unit ⊕ ErrM)) := fun i28 => (bif decide (i28 < a0.Procs.length) then (a0.Procs[i28]?).bind fun x32 => (((bif decide (x32.Entry < 0) then some true else (bif decide ((IntKind.i64.wrap (64 * ((a0.Pages.length : Nat) : Int))) ≤ x32.Entry) then some true else (bif (!decide ((Int.tmod x32.Entry 4) = 0)) then some true else (bif decide (x32.Prio < 0) then some true else some (decide (255 < x32.Prio))))))) : Option Bool).bind (fun p => (g_plan_checkProcs_J6 i28) p) else some (.inr (.inl ())))
noncomputable def g_plan_checkProcs (a0 : GPlan) : Option ErrM := (bif (decide (a0.Procs.length < 1) || decide (8 < a0.Procs.length)) then some (.v gSize) else (iter (g_plan_checkProcs_L7 a0) 0).bind (fun q => match q with | .inl _ => some .nil | .inr p => some p))
noncomputable def g_port_isOut (a0 : GPortPlan) : Option Bool := some (decide (a0.Kind = 2) || decide (a0.Kind = 4))
noncomputable def g_port_isQueue (a0 : GPortPlan) : Option Bool := some (decide (a0.Kind = 3) || decide (a0.Kind = 4))
noncomputable def g_port_isIn (a0 : GPortPlan) : Option Bool := some (decide (a0.Kind = 1) || decide (a0.Kind = 3))
noncomputable def g_port_CheckPlan_J1 (a0 : GPortPlan) (i525 : Nat) (i1033 : Nat) : Bool → Option ErrM := fun q1537 => (bif q1537 then some (.v gKind) else (bif (decide (a0.Size < 1) || decide (32 < a0.Size)) then some (.v gSize) else (bif (((decide (a0.Depth < 1) || decide (((i525 : Nat) : Int) < a0.Depth)) || decide (a0.Refresh < 0)) || decide (((i1033 : Nat) : Int) < a0.Refresh)) then some (.v gRange) else some .nil)))
noncomputable def g_port_CheckPlan_J2 (a0 : GPortPlan) (i525 : Nat) : Nat → Option ErrM := fun i1033 => (((g_port_isIn a0).bind fun r1538 => (bif (!r1538) then (g_port_isOut a0).bind fun r1543 => some (!r1543) else some false)) : Option Bool).bind (fun p => (g_port_CheckPlan_J1 a0 i525 i1033) p)
noncomputable def g_port_CheckPlan_J3 (a0 : GPortPlan) : Nat → Option ErrM := fun i525 => (((bif decide (a0.Kind = 1) then some 255 else some 0)) : Option Nat).bind (fun p => (g_port_CheckPlan_J2 a0 i525) p)
noncomputable def g_port_CheckPlan (a0 : GPortPlan) : Option ErrM := (((g_port_isQueue a0).bind fun r526 => (bif r526 then some 8 else some 1)) : Option Nat).bind (fun p => (g_port_CheckPlan_J3 a0) p)
noncomputable def g_port_Most (a0 : GPortPlan) : Option (Int × ErrM) := (g_port_CheckPlan a0).bind fun r24 => (bif (!decide (r24 = .nil)) then some (0, (.v gPlan)) else (g_port_isOut a0).bind fun r34 => (bif r34 then some (2, .nil) else some ((IntKind.i64.wrap (2 + (IntKind.i64.wrap (a0.Depth * (IntKind.i64.wrap (1 + a0.Size)))))), .nil)))
noncomputable def g_plan_bound_L1 (a0 : GPlan) : (Int × Nat) → Option ((Int × Nat) ⊕ Int) := fun (z29, i30) => (bif decide (i30 < a0.Ports.length) then (a0.Ports[i30]?).bind fun x34 => (g_port_Most x34).bind fun r40 => some (.inl ((IntKind.i64.wrap (z29 + (IntKind.i64.wrap (3 + r40.1)))), i30 + 1)) else some (.inr z29))
noncomputable def g_plan_bound (a0 : GPlan) : Option Int := (iter (g_plan_bound_L1 a0) ((IntKind.i64.wrap ((IntKind.i64.wrap ((IntKind.i64.wrap ((IntKind.i64.wrap (58 + (IntKind.i64.wrap (76 * ((a0.Procs.length : Nat) : Int))))) + (IntKind.i64.wrap (68 * ((a0.Pages.length : Nat) : Int))))) + a0.Events)) + ((a0.Sems.length : Nat) : Int))), 0)).bind (fun z29 => some z29)
noncomputable def g_plan_checkRest_L1 (a0 : GPlan) : Nat → Option (Nat ⊕ (Unit ⊕ ErrM)) := fun i57 => (bif decide (i57 < a0.Sems.length) then (a0.Sems[i57]?).bind fun x61 => (bif (decide (x61 < 0) || decide (255 < x61)) then (g_plan_at ((i57 : Nat) : Int) (.v gRange)).bind fun r63 => some (.inr (.inr r63)) else some (.inl (i57 + 1))) else some (.inr (.inl ())))
noncomputable def g_plan_checkRest_L2 (a0 : GPlan) : Nat → Option (Nat ⊕ (Unit ⊕ ErrM)) := fun i28 => (bif decide (i28 < a0.Ports.length) then (a0.Ports[i28]?).bind fun x32 => (g_port_CheckPlan x32).bind fun r38 => (bif (!decide (r38 = .nil)) then (g_plan_at ((i28 : Nat) : Int) r38).bind fun r45 => some (.inr (.inr r45)) else some (.inl (i28 + 1))) else some (.inr (.inl ())))
noncomputable def g_plan_checkRest (a0 : GPlan) : Option ErrM := (bif decide (8 < a0.Ports.length) then some (.v gSize) else (iter (g_plan_checkRest_L2 a0) 0).bind (fun q => match q with | .inl _ => (bif (decide (a0.Events < 0) || decide (8 < a0.Events)) then some (.v gRange) else (bif decide (8 < a0.Sems.length) then some (.v gSize) else (iter (g_plan_checkRest_L1 a0) 0).bind (fun q => match q with | .inl _ => (g_plan_bound a0).bind fun r69 => (bif decide (4096 < r69) then some (.v gSize) else some .nil) | .inr p => some p))) | .inr p => some p))
noncomputable def g_plan_Check (a0 : GPlan) : Option ErrM := (bif (decide (a0.Id < 0) || decide (2147483647 < a0.Id)) then some (.v gRange) else (g_plan_checkPages a0).bind fun r30 => (bif (!decide (r30 = .nil)) then some r30 else (g_plan_checkProcs a0).bind fun r38 => (bif (!decide (r38 = .nil)) then some r38 else (g_plan_checkRest a0).bind fun r46 => (bif (!decide (r46 = .nil)) then some r46 else some .nil))))
noncomputable def g_plan_Bound (a0 : GPlan) : Option (Int × ErrM) := (g_plan_Check a0).bind fun r24 => (bif (!decide (r24 = .nil)) then some (0, (.v gPlan)) else (g_plan_bound a0).bind fun r34 => some (r34, .nil))
noncomputable def g_slices_Clone_int (a0 : List Int) : Option (List Int) := chk ((([] : List Int).length + a0.length) * 8 ≤ 140737488355328) (some (([] : List Int) ++ a0))
structure GProc where
  Regs : Vector Int 16
  Pc : Int
  State : Int
  Prio : Int
  Wait : Int
  Obj : Int
  deriving DecidableEq
def eGProc (x : GProc) : List Value := x.Regs.toList.map (Value.int .u32) ++ [.int .u32 x.Pc, .int .i64 x.State, .int .i64 x.Prio, .int .i64 x.Wait, .int .i64 x.Obj]
theorem eGProc_len (x : GProc) : (eGProc x).length = 21 := by simp [eGProc]
theorem eGProc_one (x : GProc) : ∀ u ∈ eGProc x, u.oneCell' = true := by
  intro u hu
  simp only [eGProc, List.mem_append, List.mem_cons, List.mem_map, List.not_mem_nil, or_false] at hu
  rcases hu with (⟨_, _, rfl⟩) | (rfl | rfl | rfl | rfl | rfl) <;> rfl
structure GTimer where
  Proc : Int
  Due : Int
  deriving DecidableEq
def eGTimer (x : GTimer) : List Value := [.int .i64 x.Proc, .int .i64 x.Due]
theorem eGTimer_len (x : GTimer) : (eGTimer x).length = 2 := by simp [eGTimer]
theorem eGTimer_one (x : GTimer) : ∀ u ∈ eGTimer x, u.oneCell' = true := by
  intro u hu
  simp only [eGTimer, List.mem_append, List.mem_cons, List.mem_map, List.not_mem_nil, or_false] at hu
  rcases hu with rfl | rfl <;> rfl
structure GPort where
  Msgs : List ByteArray
  Age : Int
  deriving DecidableEq
def RGPort (w : World) (cs : List Value) (x : GPort) : Prop := ∃ v0, cs = [v0, .int .i64 x.Age] ∧ SlR w 1 (Flat eS) v0 x.Msgs
theorem RGPort.mono : Mono RGPort := by
  intro w w' cs x e h
  obtain ⟨v0, rfl, h0⟩ := h
  exact ⟨v0, rfl, h0.agr (Flat.mono _) e⟩
structure GPage where
  Rights : Int
  Dirty : Bool
  Data : Vector UInt8 64
  deriving DecidableEq
def eGPage (x : GPage) : List Value := [.int .i64 x.Rights, .bool x.Dirty] ++ x.Data.toList.map (fun b : UInt8 => Value.int .u8 (b.toNat : Int))
theorem eGPage_len (x : GPage) : (eGPage x).length = 66 := by simp [eGPage]
theorem eGPage_one (x : GPage) : ∀ u ∈ eGPage x, u.oneCell' = true := by
  intro u hu
  simp only [eGPage, List.mem_append, List.mem_cons, List.mem_map, List.not_mem_nil, or_false] at hu
  rcases hu with (rfl | rfl) | (⟨_, _, rfl⟩) <;> rfl
structure GState where
  Id : Int
  Frame : Int
  Epoch : Int
  Procs : List GProc
  Ready : List Int
  Timers : List GTimer
  Up : List Bool
  Sems : List Int
  Ports : List GPort
  Pages : List GPage
  deriving DecidableEq
def RGState (w : World) (cs : List Value) (x : GState) : Prop := ∃ v0 v1 v2 v3 v4 v5 v6, cs = [.int .i64 x.Id, .int .i64 x.Frame, .int .i64 x.Epoch, v0, v1, v2, v3, v4, v5, v6] ∧ SlR w 21 (Flat eGProc) v0 x.Procs ∧ SlR w 1 (Flat eI) v1 x.Ready ∧ SlR w 2 (Flat eGTimer) v2 x.Timers ∧ SlR w 1 (Flat eF) v3 x.Up ∧ SlR w 1 (Flat eI) v4 x.Sems ∧ SlR w 2 RGPort v5 x.Ports ∧ SlR w 66 (Flat eGPage) v6 x.Pages
theorem RGState.mono : Mono RGState := by
  intro w w' cs x e h
  obtain ⟨v0, v1, v2, v3, v4, v5, v6, rfl, h0, h1, h2, h3, h4, h5, h6⟩ := h
  exact ⟨v0, v1, v2, v3, v4, v5, v6, rfl, h0.agr (Flat.mono _) e, h1.agr (Flat.mono _) e, h2.agr (Flat.mono _) e, h3.agr (Flat.mono _) e, h4.agr (Flat.mono _) e, h5.agr RGPort.mono e, h6.agr (Flat.mono _) e⟩
noncomputable def g_plan_Boot_J6 (i873 : Nat) (l874 : List GProc) : (List Int × GProc) → Option ((Nat × List GProc × List Int) ⊕ (List GProc × List Int)) := fun (l1397, t1400) => chk ((l874.length + [t1400].length) * 104 ≤ 140737488355328) (some (.inl (i873 + 1, (l874 ++ [t1400]), l1397)))
noncomputable def g_plan_Boot_L7 (a0 : GPlan) : (Nat × List GPage) → Option ((Nat × List GPage) ⊕ (List GPage)) := fun (i1429, l1430) => (bif decide (i1429 < a0.Pages.length) then (a0.Pages[i1429]?).bind fun x1437 => chk ((l1430.length + [(⟨x1437.Rights, false, (cpyV (Vector.replicate 64 0) x1437.Init)⟩ : GPage)].length) * 80 ≤ 140737488355328) (some (.inl (i1429 + 1, (l1430 ++ [(⟨x1437.Rights, false, (cpyV (Vector.replicate 64 0) x1437.Init)⟩ : GPage)])))) else some (.inr l1430))
noncomputable def g_plan_Boot_L8 (a0 : GPlan) : (Nat × List GProc × List Int) → Option ((Nat × List GProc × List Int) ⊕ (List GProc × List Int)) := fun (i873, l874, l877) => (bif decide (i873 < a0.Procs.length) then (a0.Procs[i873]?).bind fun x885 => (((bif x885.Auto then chk ((l877.length + [((i873 : Nat) : Int)].length) * 8 ≤ 140737488355328) (some ((l877 ++ [((i873 : Nat) : Int)]), (⟨(Vector.replicate 16 0), (IntKind.u32.wrap x885.Entry), 1, x885.Prio, 0, 0⟩ : GProc))) else some (l877, (⟨(Vector.replicate 16 0), (IntKind.u32.wrap x885.Entry), 0, x885.Prio, 0, 0⟩ : GProc)))) : Option (List Int × GProc)).bind (fun p => (g_plan_Boot_J6 i873 l874) p) else some (.inr (l874, l877)))
noncomputable def g_plan_Boot_J9 (a0 : GPlan) : (List Bool × List Int × List GPort) → Option (GState × ErrM) := fun (l548, l551, l554) => (iter (g_plan_Boot_L8 a0) (0, ([] : List GProc), ([] : List Int))).bind (fun (l874, l877) => (iter (g_plan_Boot_L7 a0) (0, ([] : List GPage))).bind (fun l1430 => some ((⟨a0.Id, 0, 0, l874, l877, ([] : List GTimer), l548, l551, l554, l1430⟩ : GState), .nil)))
noncomputable def g_plan_Boot (a0 : GPlan) : Option (GState × ErrM) := (g_plan_Check a0).bind fun r27 => (bif (!decide (r27 = .nil)) then some ((⟨0, 0, 0, ([] : List GProc), ([] : List Int), ([] : List GTimer), ([] : List Bool), ([] : List Int), ([] : List GPort), ([] : List GPage)⟩ : GState), (.v gPlan)) else ((chk (0 ≤ a0.Events) (chk (a0.Events.toNat * 1 ≤ 140737488355328) ((g_slices_Clone_int a0.Sems).bind fun r564 => chk (a0.Ports.length * 32 ≤ 140737488355328) (some ((List.replicate a0.Events.toNat false), r564, (List.replicate a0.Ports.length (⟨([] : List ByteArray), 0⟩ : GPort))))))) : Option (List Bool × List Int × List GPort)).bind (fun p => (g_plan_Boot_J9 a0) p))
structure GWireWriter where
  buf_ : List UInt8
  err_ : ErrM
  deriving DecidableEq
noncomputable def g_wire_NewWriter : Option GWireWriter := some (⟨([] : List UInt8), .nil⟩ : GWireWriter)
noncomputable def g_slices_Clone_byte (a0 : List UInt8) : Option (List UInt8) := chk ((([] : List UInt8).length + a0.length) * 1 ≤ 140737488355328) (some (([] : List UInt8) ++ a0))
noncomputable def g_wire_Writer_Done (a0 : GWireWriter) : Option (List UInt8 × ErrM × GWireWriter) := (bif (!decide (a0.err_ = .nil)) then some (([] : List UInt8), a0.err_, (⟨a0.buf_, a0.err_⟩ : GWireWriter)) else (g_slices_Clone_byte a0.buf_).bind fun r25 => some (r25, .nil, (⟨a0.buf_, a0.err_⟩ : GWireWriter)))
noncomputable def g_wire_Writer_put (a0 : GWireWriter) (a1 : List UInt8) : Option GWireWriter := (bif decide (a0.err_ = .nil) then chk ((a0.buf_.length + a1.length) * 1 ≤ 140737488355328) (some (⟨(a0.buf_ ++ a1), a0.err_⟩ : GWireWriter)) else some (⟨a0.buf_, a0.err_⟩ : GWireWriter))
noncomputable def g_wire_most (a0 : Int) : Option Int := chk (0 ≤ (IntKind.i64.wrap (8 * a0))) (some (IntKind.i64.wrap ((shL .i64 1 (IntKind.i64.wrap (8 * a0))) - 1)))
noncomputable def g_wire_at (a0 : Int) (a1 : ErrM) : Option ErrM := (errAt a0 a1).bind fun r24 => some r24
noncomputable def g_wire_Writer_spoil (a0 : GWireWriter) (a1 : ErrM) : Option GWireWriter := (bif decide (a0.err_ = .nil) then (g_wire_at ((a0.buf_.length : Nat) : Int) a1).bind fun r23 => some (⟨a0.buf_, r23⟩ : GWireWriter) else some (⟨a0.buf_, a0.err_⟩ : GWireWriter))
noncomputable def g_wire_Writer_num_L2 (a1 : Int) : (Int × List UInt8 × ErrM) → Option ((Int × List UInt8 × ErrM) ⊕ (List UInt8 × ErrM)) := fun (z539, l540, e543) => (bif decide (0 ≤ z539) then chk (0 ≤ (IntKind.i64.wrap (8 * z539))) ((g_wire_Writer_put (⟨l540, e543⟩ : GWireWriter) [(byteOf (shR .i64 a1 (IntKind.i64.wrap (8 * z539))))]).bind fun r554 => some (.inl ((IntKind.i64.wrap (z539 - 1)), r554.buf_, r554.err_))) else some (.inr (l540, e543)))
noncomputable def g_wire_Writer_num_J3 (a0 : GWireWriter) (a1 : Int) (a2 : Int) : Bool → Option GWireWriter := fun q522 => (bif q522 then (g_wire_Writer_spoil (⟨a0.buf_, a0.err_⟩ : GWireWriter) (.v gRange)).bind fun r531 => some (⟨r531.buf_, r531.err_⟩ : GWireWriter) else (iter (g_wire_Writer_num_L2 a1) ((IntKind.i64.wrap (a2 - 1)), a0.buf_, a0.err_)).bind (fun (l540, e543) => some (⟨l540, e543⟩ : GWireWriter)))
noncomputable def g_wire_Writer_num (a0 : GWireWriter) (a1 : Int) (a2 : Int) : Option GWireWriter := (((bif decide (a1 < 0) then some true else (g_wire_most a2).bind fun r524 => some (decide (r524 < a1)))) : Option Bool).bind (fun p => (g_wire_Writer_num_J3 a0 a1 a2) p)
noncomputable def g_wire_Writer_Record_J1 (a0 : GWireWriter) (a1 : Int) (a2 : List UInt8) : Bool → Option GWireWriter := fun q522 => (bif q522 then (g_wire_Writer_spoil (⟨a0.buf_, a0.err_⟩ : GWireWriter) (.v gTag)).bind fun r531 => some (⟨r531.buf_, r531.err_⟩ : GWireWriter) else (bif decide (65535 < a2.length) then (g_wire_Writer_spoil (⟨a0.buf_, a0.err_⟩ : GWireWriter) (.v gLength)).bind fun r541 => some (⟨r541.buf_, r541.err_⟩ : GWireWriter) else (g_wire_Writer_num (⟨a0.buf_, a0.err_⟩ : GWireWriter) a1 1).bind fun r549 => (g_wire_Writer_num (⟨r549.buf_, r549.err_⟩ : GWireWriter) ((a2.length : Nat) : Int) 2).bind fun r557 => (g_wire_Writer_put (⟨r557.buf_, r557.err_⟩ : GWireWriter) a2).bind fun r565 => some (⟨r565.buf_, r565.err_⟩ : GWireWriter)))
noncomputable def g_wire_Writer_Record (a0 : GWireWriter) (a1 : Int) (a2 : List UInt8) : Option GWireWriter := (((bif decide (a1 < 1) then some true else (g_wire_most 1).bind fun r524 => some (decide (r524 < a1)))) : Option Bool).bind (fun p => (g_wire_Writer_Record_J1 a0 a1 a2) p)
noncomputable def g_plan_record (a0 : GWireWriter) (a1 : Int) (a2 : GWireWriter → Option GWireWriter) : Option GWireWriter := (g_wire_NewWriter).bind fun r21 => (a2 (⟨r21.buf_, r21.err_⟩ : GWireWriter)).bind fun r30 => (g_wire_Writer_Done (⟨r30.buf_, r30.err_⟩ : GWireWriter)).bind fun r38 => (g_wire_Writer_Record (⟨a0.buf_, a0.err_⟩ : GWireWriter) a1 r38.1).bind fun r50 => some (⟨r50.buf_, r50.err_⟩ : GWireWriter)
noncomputable def g_wire_Writer_Raw (a0 : GWireWriter) (a1 : List UInt8) : Option GWireWriter := (g_wire_Writer_put (⟨a0.buf_, a0.err_⟩ : GWireWriter) a1).bind fun r22 => some (⟨r22.buf_, r22.err_⟩ : GWireWriter)
noncomputable def g_wire_Writer_U8 (a0 : GWireWriter) (a1 : Int) : Option GWireWriter := (g_wire_Writer_num (⟨a0.buf_, a0.err_⟩ : GWireWriter) a1 1).bind fun r22 => some (⟨r22.buf_, r22.err_⟩ : GWireWriter)
noncomputable def g_plan_records_1 (a0 : GWireWriter) (a1 : GPagePlan) : Option GWireWriter := (g_wire_Writer_U8 (⟨a0.buf_, a0.err_⟩ : GWireWriter) a1.Rights).bind fun r22 => chk (a1.Init.size ≤ 9223372036854775807) ((g_wire_Writer_Raw (⟨r22.buf_, r22.err_⟩ : GWireWriter) a1.Init.data.toList).bind fun r35 => some (⟨r35.buf_, r35.err_⟩ : GWireWriter))
noncomputable def g_wire_Writer_U32 (a0 : GWireWriter) (a1 : Int) : Option GWireWriter := (g_wire_Writer_num (⟨a0.buf_, a0.err_⟩ : GWireWriter) a1 4).bind fun r22 => some (⟨r22.buf_, r22.err_⟩ : GWireWriter)
noncomputable def g_wire_Writer_Flag (a0 : GWireWriter) (a1 : Bool) : Option GWireWriter := (bif a1 then (g_wire_Writer_put (⟨a0.buf_, a0.err_⟩ : GWireWriter) [(byteOf 1)]).bind fun r27 => some (⟨r27.buf_, r27.err_⟩ : GWireWriter) else (g_wire_Writer_put (⟨a0.buf_, a0.err_⟩ : GWireWriter) [(byteOf 0)]).bind fun r39 => some (⟨r39.buf_, r39.err_⟩ : GWireWriter))
noncomputable def g_plan_records_2 (a0 : GWireWriter) (a1 : GProcPlan) : Option GWireWriter := (g_wire_Writer_U32 (⟨a0.buf_, a0.err_⟩ : GWireWriter) a1.Entry).bind fun r22 => (g_wire_Writer_U8 (⟨r22.buf_, r22.err_⟩ : GWireWriter) a1.Prio).bind fun r30 => (g_wire_Writer_Flag (⟨r30.buf_, r30.err_⟩ : GWireWriter) a1.Auto).bind fun r38 => some (⟨r38.buf_, r38.err_⟩ : GWireWriter)
noncomputable def g_plan_records_3 (a0 : GWireWriter) (a1 : GPortPlan) : Option GWireWriter := (g_wire_Writer_U8 (⟨a0.buf_, a0.err_⟩ : GWireWriter) a1.Kind).bind fun r22 => (g_wire_Writer_U8 (⟨r22.buf_, r22.err_⟩ : GWireWriter) a1.Size).bind fun r30 => (g_wire_Writer_U8 (⟨r30.buf_, r30.err_⟩ : GWireWriter) a1.Depth).bind fun r38 => (g_wire_Writer_U8 (⟨r38.buf_, r38.err_⟩ : GWireWriter) a1.Refresh).bind fun r46 => some (⟨r46.buf_, r46.err_⟩ : GWireWriter)
noncomputable def g_plan_records_4 (a0 : GWireWriter) (a1 : GPlan) : Option GWireWriter := (g_wire_Writer_U8 (⟨a0.buf_, a0.err_⟩ : GWireWriter) a1.Events).bind fun r22 => some (⟨r22.buf_, r22.err_⟩ : GWireWriter)
noncomputable def g_plan_records_5_L1 (a1 : GPlan) : (Nat × List UInt8 × ErrM) → Option ((Nat × List UInt8 × ErrM) ⊕ (List UInt8 × ErrM)) := fun (i23, l24, e27) => (bif decide (i23 < a1.Sems.length) then (a1.Sems[i23]?).bind fun x33 => (g_wire_Writer_U8 (⟨l24, e27⟩ : GWireWriter) x33).bind fun r35 => some (.inl (i23 + 1, r35.buf_, r35.err_)) else some (.inr (l24, e27)))
noncomputable def g_plan_records_5 (a0 : GWireWriter) (a1 : GPlan) : Option GWireWriter := (iter (g_plan_records_5_L1 a1) (0, a0.buf_, a0.err_)).bind (fun (l24, e27) => some (⟨l24, e27⟩ : GWireWriter))
noncomputable def g_plan_records_L1 (a0 : GPlan) : (Nat × List UInt8 × ErrM) → Option ((Nat × List UInt8 × ErrM) ⊕ (List UInt8 × ErrM)) := fun (i86, l87, e90) => (bif decide (i86 < a0.Ports.length) then (a0.Ports[i86]?).bind fun x96 => (g_plan_record (⟨l87, e90⟩ : GWireWriter) 3 (fun x0 => g_plan_records_3 x0 x96)).bind fun r103 => some (.inl (i86 + 1, r103.buf_, r103.err_)) else some (.inr (l87, e90)))
noncomputable def g_plan_records_L2 (a0 : GPlan) : (Nat × List UInt8 × ErrM) → Option ((Nat × List UInt8 × ErrM) ⊕ (List UInt8 × ErrM)) := fun (i60, l61, e64) => (bif decide (i60 < a0.Procs.length) then (a0.Procs[i60]?).bind fun x70 => (g_plan_record (⟨l61, e64⟩ : GWireWriter) 2 (fun x0 => g_plan_records_2 x0 x70)).bind fun r77 => some (.inl (i60 + 1, r77.buf_, r77.err_)) else some (.inr (l61, e64)))
noncomputable def g_plan_records_L3 (a0 : GPlan) : (Nat × List UInt8 × ErrM) → Option ((Nat × List UInt8 × ErrM) ⊕ (List UInt8 × ErrM)) := fun (i34, l35, e38) => (bif decide (i34 < a0.Pages.length) then (a0.Pages[i34]?).bind fun x44 => (g_plan_record (⟨l35, e38⟩ : GWireWriter) 1 (fun x0 => g_plan_records_1 x0 x44)).bind fun r51 => some (.inl (i34 + 1, r51.buf_, r51.err_)) else some (.inr (l35, e38)))
noncomputable def g_plan_records (a0 : GPlan) : Option GWireWriter := (g_wire_NewWriter).bind fun r24 => (iter (g_plan_records_L3 a0) (0, r24.buf_, r24.err_)).bind (fun (l35, e38) => (iter (g_plan_records_L2 a0) (0, l35, e38)).bind (fun (l61, e64) => (iter (g_plan_records_L1 a0) (0, l61, e64)).bind (fun (l87, e90) => (g_plan_record (⟨l87, e90⟩ : GWireWriter) 4 (fun x0 => g_plan_records_4 x0 a0)).bind fun r111 => (g_plan_record (⟨r111.buf_, r111.err_⟩ : GWireWriter) 5 (fun x0 => g_plan_records_5 x0 a0)).bind fun r119 => some (⟨r119.buf_, r119.err_⟩ : GWireWriter))))
noncomputable def g_wire_Writer_U16 (a0 : GWireWriter) (a1 : Int) : Option GWireWriter := (g_wire_Writer_num (⟨a0.buf_, a0.err_⟩ : GWireWriter) a1 2).bind fun r22 => some (⟨r22.buf_, r22.err_⟩ : GWireWriter)
noncomputable def g_bytes_Clone (a0 : List UInt8) : Option (List UInt8) := chk ((([] : List UInt8).length + a0.length) * 1 ≤ 140737488355328) (some (([] : List UInt8) ++ a0))
noncomputable def g_crc_laid (a0 : Int) : Option (List UInt8) := some [(byteOf a0), (byteOf (shR .u32 a0 8)), (byteOf (shR .u32 a0 16)), (byteOf (shR .u32 a0 24))]
noncomputable def g_crc_step (a0 : Int) : Option Int := (bif decide ((bitAnd .u32 a0 1) = 1) then some (bitXor .u32 (shR .u32 a0 1) 3988292384) else some (shR .u32 a0 1))
noncomputable def g_crc_table_L3 : (Int × Nat) → Option ((Int × Nat) ⊕ Int) := fun (z31, i32) => (bif decide (i32 < 8) then (g_crc_step z31).bind fun r36 => some (.inl (r36, i32 + 1)) else some (.inr z31))
noncomputable def g_crc_table_L4 : (Nat × Vector Int 256) → Option ((Nat × Vector Int 256) ⊕ (Vector Int 256)) := fun (i25, y26) => (bif decide (i25 < 256) then (iter g_crc_table_L3 ((IntKind.u32.wrap ((i25 : Nat) : Int)), 0)).bind (fun z31 => (rdV y26 ((i25 : Nat) : Int)).bind fun x40 => some (.inl (i25 + 1, (y26.setIfInBounds (((i25 : Nat) : Int).toNat) z31)))) else some (.inr y26))
noncomputable def g_crc_table : Option (Vector Int 256) := (iter g_crc_table_L4 (0, #v[0, 0, 0, 0, 0, 0, 0, 0, 0, 0, 0, 0, 0, 0, 0, 0, 0, 0, 0, 0, 0, 0, 0, 0, 0, 0, 0, 0, 0, 0, 0, 0, 0, 0, 0, 0, 0, 0, 0, 0, 0, 0, 0, 0, 0, 0, 0, 0, 0, 0, 0, 0, 0, 0, 0, 0, 0, 0, 0, 0, 0, 0, 0, 0, 0, 0, 0, 0, 0, 0, 0, 0, 0, 0, 0, 0, 0, 0, 0, 0, 0, 0, 0, 0, 0, 0, 0, 0, 0, 0, 0, 0, 0, 0, 0, 0, 0, 0, 0, 0, 0, 0, 0, 0, 0, 0, 0, 0, 0, 0, 0, 0, 0, 0, 0, 0, 0, 0, 0, 0, 0, 0, 0, 0, 0, 0, 0, 0, 0, 0, 0, 0, 0, 0, 0, 0, 0, 0, 0, 0, 0, 0, 0, 0, 0, 0, 0, 0, 0, 0, 0, 0, 0, 0, 0, 0, 0, 0, 0, 0, 0, 0, 0, 0, 0, 0, 0, 0, 0, 0, 0, 0, 0, 0, 0, 0, 0, 0, 0, 0, 0, 0, 0, 0, 0, 0, 0, 0, 0, 0, 0, 0, 0, 0, 0, 0, 0, 0, 0, 0, 0, 0, 0, 0, 0, 0, 0, 0, 0, 0, 0, 0, 0, 0, 0, 0, 0, 0, 0, 0, 0, 0, 0, 0, 0, 0, 0, 0, 0, 0, 0, 0, 0, 0, 0, 0, 0, 0, 0, 0, 0, 0, 0, 0, 0, 0, 0, 0, 0, 0, 0, 0, 0, 0, 0, 0])).bind (fun y26 => some y26)
noncomputable def g_crc_move_L1 (a1 : List UInt8) (r23 : Vector Int 256) : (Int × Nat) → Option ((Int × Nat) ⊕ Int) := fun (z30, i31) => (bif decide (i31 < a1.length) then (a1[i31]?).bind fun x35 => (rdV r23 (bitXor .u8 (IntKind.u8.wrap z30) (x35.toNat : Int))).bind fun x36 => some (.inl ((bitXor .u32 x36 (shR .u32 z30 8)), i31 + 1)) else some (.inr z30))
noncomputable def g_crc_move (a0 : Int) (a1 : List UInt8) : Option Int := (bif decide (a1.length = 0) then some a0 else (g_crc_table).bind fun r23 => (iter (g_crc_move_L1 a1 r23) (a0, 0)).bind (fun z30 => some z30))
noncomputable def g_crc_More (a0 : Int) (a1 : List UInt8) : Option Int := (g_crc_move (notK .u32 a0) a1).bind fun r21 => some (notK .u32 r21)
noncomputable def g_crc_Sum (a0 : List UInt8) : Option Int := (g_crc_More 0 a0).bind fun r21 => some r21
noncomputable def g_crc_Seal (a0 : List UInt8) : Option (List UInt8) := (g_bytes_Clone a0).bind fun r21 => (g_crc_Sum a0).bind fun r27 => (g_crc_laid r27).bind fun r31 => chk ((r21.length + r31.length) * 1 ≤ 140737488355328) (some (r21 ++ r31))
noncomputable def g_plan_Bytes (a0 : GPlan) : Option (List UInt8 × ErrM) := (g_plan_Check a0).bind fun r24 => (bif (!decide (r24 = .nil)) then some (([] : List UInt8), (.v gPlan)) else (g_plan_records a0).bind fun r35 => (g_wire_Writer_Done (⟨r35.buf_, r35.err_⟩ : GWireWriter)).bind fun r44 => (bif (!decide (r44.2.1 = .nil)) then some (([] : List UInt8), r44.2.1) else (g_wire_NewWriter).bind fun r57 => (g_wire_Writer_Raw (⟨r57.buf_, r57.err_⟩ : GWireWriter) [(byteOf 70), (byteOf 80), (byteOf 76), (byteOf 78)]).bind fun r70 => (g_wire_Writer_U16 (⟨r70.buf_, r70.err_⟩ : GWireWriter) 1).bind fun r78 => (g_wire_Writer_U32 (⟨r78.buf_, r78.err_⟩ : GWireWriter) (IntKind.i64.wrap ((IntKind.i64.wrap (15 + ((r44.1.length : Nat) : Int))) + 4))).bind fun r87 => (g_wire_Writer_U32 (⟨r87.buf_, r87.err_⟩ : GWireWriter) a0.Id).bind fun r95 => (g_wire_Writer_Flag (⟨r95.buf_, r95.err_⟩ : GWireWriter) a0.Mobile).bind fun r103 => (g_wire_Writer_Raw (⟨r103.buf_, r103.err_⟩ : GWireWriter) r44.1).bind fun r111 => (g_wire_Writer_Done (⟨r111.buf_, r111.err_⟩ : GWireWriter)).bind fun r119 => (bif (!decide (r119.2.1 = .nil)) then some (([] : List UInt8), r119.2.1) else (g_crc_Seal r119.1).bind fun r132 => some (r132, .nil))))
noncomputable def g_law10_fixed_J3 (r21 : GPlan) : Bool → Option Bool := fun q1090 => (bif q1090 then some false else (r21.Procs[1]?).bind fun x1109 => (g_plan_Check (⟨r21.Id, r21.Mobile, r21.Pages, (r21.Procs.set 1 (⟨66, x1109.Prio, x1109.Auto⟩ : GProcPlan)), r21.Ports, r21.Events, r21.Sems⟩ : GPlan)).bind fun r1112 => (bif decide ((ErrM.code r1112) = 4) then some (decide ((ErrM.place r1112) = 1)) else some false))
noncomputable def g_law10_fixed_J4 (r21 : GPlan) : Bool → Option Bool := fun q545 => (bif q545 then some false else (g_plan_Boot r21).bind fun r556 => (g_plan_Bytes r21).bind fun r581 => (((bif (!decide (r556.2 = .nil)) then some true else (bif (!decide (r581.2 = .nil)) then some true else (bif (!decide (r556.1.Procs.length = 2)) then some true else (bif (!decide (r556.1.Ready.length = 1)) then some true else (bif (!decide (r556.1.Pages.length = 2)) then some true else (r556.1.Pages[0]?).bind fun x1099 => (rdV x1099.Data 1).bind fun x1100 => (bif (!decide ((x1100.toNat : Int) = 98)) then some true else (bif (!decide (r581.1.length = 69)) then some true else chk (0 ≤ (15 : Int) ∧ (15 : Int) ≤ r581.1.length) (some (!decide ((strB (r581.1.take (15 : Int).toNat)) = ⟨#[70, 80, 76, 78, 0, 1, 0, 0, 0, 69, 0, 0, 0, 3, 1]⟩))))))))))) : Option Bool).bind (fun p => (g_law10_fixed_J3 r21) p))
noncomputable def g_law10_fixed : Option Bool := (g_law10_small).bind fun r21 => (g_plan_Bound r21).bind fun r38 => (((g_plan_Check r21).bind fun r546 => (bif (!decide (r546 = .nil)) then some true else (bif (!decide (r38.2 = .nil)) then some true else some (!decide (r38.1 = 363))))) : Option Bool).bind (fun p => (g_law10_fixed_J4 r21) p)
structure GR10Err where
  Code : Int
  Place : Int
  deriving DecidableEq
def eGR10Err (x : GR10Err) : List Value := [.int .i64 x.Code, .int .i64 x.Place]
theorem eGR10Err_len (x : GR10Err) : (eGR10Err x).length = 2 := by simp [eGR10Err]
theorem eGR10Err_one (x : GR10Err) : ∀ u ∈ eGR10Err x, u.oneCell' = true := by
  intro u hu
  simp only [eGR10Err, List.mem_append, List.mem_cons, List.mem_map, List.not_mem_nil, or_false] at hu
  rcases hu with rfl | rfl <;> rfl
noncomputable def g_r10_bad (a0 : Int) : Option GR10Err := some (⟨a0, (-1)⟩ : GR10Err)
noncomputable def g_r10_none : Option GR10Err := some (⟨0, (-1)⟩ : GR10Err)
noncomputable def g_r10_pages_J12 (a0 : GPlan) (i36 : Nat) : Bool → Option (Nat ⊕ (Unit ⊕ GR10Err)) := fun q541 => (bif q541 then some (.inr (.inr (⟨4, ((i36 : Nat) : Int)⟩ : GR10Err))) else (a0.Pages[i36]?).bind fun x549 => (bif decide (64 < x549.Init.size) then some (.inr (.inr (⟨5, ((i36 : Nat) : Int)⟩ : GR10Err))) else some (.inl (i36 + 1))))
noncomputable def g_r10_pages_L13 (a0 : GPlan) : Nat → Option (Nat ⊕ (Unit ⊕ GR10Err)) := fun i36 => (bif decide (i36 < a0.Pages.length) then (((a0.Pages[i36]?).bind fun x542 => (bif decide (x542.Rights < 0) then some true else (a0.Pages[i36]?).bind fun x544 => some (decide (7 < x544.Rights)))) : Option Bool).bind (fun p => (g_r10_pages_J12 a0 i36) p) else some (.inr (.inl ())))
noncomputable def g_r10_pages (a0 : GPlan) : Option GR10Err := (bif (decide (a0.Pages.length < 1) || decide (32 < a0.Pages.length)) then (g_r10_bad 11).bind fun r29 => some r29 else (iter (g_r10_pages_L13 a0) 0).bind (fun q => match q with | .inl _ => (g_r10_none).bind fun r553 => some r553 | .inr p => some p))
noncomputable def g_r10_procs_J6 (i36 : Nat) : Bool → Option (Nat ⊕ (Unit ⊕ GR10Err)) := fun q547 => (bif q547 then some (.inr (.inr (⟨4, ((i36 : Nat) : Int)⟩ : GR10Err))) else some (.inl (i36 + 1)))
noncomputable def g_r10_procs_L7 (a0 : GPlan) : Nat → Option (Nat ⊕ (Unit ⊕ GR10Err)) := fun i36 => (bif decide (i36 < a0.Procs.length) then (a0.Procs[i36]?).bind fun x40 => (((bif decide (x40.Entry < 0) then some true else (bif (!decide ((Int.tmod x40.Entry 4) = 0)) then some true else (bif decide ((IntKind.i64.wrap (64 * ((a0.Pages.length : Nat) : Int))) ≤ x40.Entry) then some true else (bif decide (x40.Prio < 0) then some true else some (decide (255 < x40.Prio))))))) : Option Bool).bind (fun p => (g_r10_procs_J6 i36) p) else some (.inr (.inl ())))
noncomputable def g_r10_procs (a0 : GPlan) : Option GR10Err := (bif (decide (a0.Procs.length < 1) || decide (8 < a0.Procs.length)) then (g_r10_bad 11).bind fun r29 => some r29 else (iter (g_r10_procs_L7 a0) 0).bind (fun q => match q with | .inl _ => (g_r10_none).bind fun r557 => some r557 | .inr p => some p))
noncomputable def g_r07_CheckPlan (a0 : GPortPlan) : Option Int := (bif (decide (a0.Kind < 1) || decide (4 < a0.Kind)) then some 7 else (bif (decide (a0.Size < 1) || decide (32 < a0.Size)) then some 11 else (bif ((decide (a0.Depth < 1) || decide (8 < a0.Depth)) || ((!(decide (3 ≤ a0.Kind))) && (!decide (a0.Depth = 1)))) then some 4 else (bif ((decide (a0.Refresh < 0) || decide (255 < a0.Refresh)) || ((!decide (a0.Kind = 1)) && (!decide (a0.Refresh = 0)))) then some 4 else some 0))))
noncomputable def g_r10_ports_L1 (a0 : GPlan) : Nat → Option (Nat ⊕ (Unit ⊕ GR10Err)) := fun i36 => (bif decide (i36 < a0.Ports.length) then (a0.Ports[i36]?).bind fun x40 => (g_r07_CheckPlan x40).bind fun r41 => (bif (!decide (r41 = 0)) then some (.inr (.inr (⟨r41, ((i36 : Nat) : Int)⟩ : GR10Err))) else some (.inl (i36 + 1))) else some (.inr (.inl ())))
noncomputable def g_r10_ports (a0 : GPlan) : Option GR10Err := (bif decide (8 < a0.Ports.length) then (g_r10_bad 11).bind fun r29 => some r29 else (iter (g_r10_ports_L1 a0) 0).bind (fun q => match q with | .inl _ => (g_r10_none).bind fun r48 => some r48 | .inr p => some p))
noncomputable def g_r10_things_J6 (i43 : Nat) : Bool → Option (Nat ⊕ (Unit ⊕ GR10Err)) := fun q548 => (bif q548 then some (.inr (.inr (⟨4, ((i43 : Nat) : Int)⟩ : GR10Err))) else some (.inl (i43 + 1)))
noncomputable def g_r10_things_L7 (a0 : GPlan) : Nat → Option (Nat ⊕ (Unit ⊕ GR10Err)) := fun i43 => (bif decide (i43 < a0.Sems.length) then (((a0.Sems[i43]?).bind fun x549 => (bif decide (x549 < 0) then some true else (a0.Sems[i43]?).bind fun x551 => some (decide (255 < x551)))) : Option Bool).bind (fun p => (g_r10_things_J6 i43) p) else some (.inr (.inl ())))
noncomputable def g_r10_things (a0 : GPlan) : Option GR10Err := (bif (decide (a0.Events < 0) || decide (8 < a0.Events)) then (g_r10_bad 4).bind fun r28 => some r28 else (bif decide (8 < a0.Sems.length) then (g_r10_bad 11).bind fun r36 => some r36 else (iter (g_r10_things_L7 a0) 0).bind (fun q => match q with | .inl _ => (g_r10_none).bind fun r556 => some r556 | .inr p => some p)))
noncomputable def g_r07_Most (a0 : GPortPlan) : Option (Int × Int) := (g_r07_CheckPlan a0).bind fun r24 => (bif (!decide (r24 = 0)) then some (0, 8) else (bif decide (a0.Kind = 1) then some ((IntKind.i64.wrap (3 + a0.Size)), 0) else (bif decide (a0.Kind = 3) then some ((IntKind.i64.wrap (2 + (IntKind.i64.wrap (a0.Depth * (IntKind.i64.wrap (1 + a0.Size)))))), 0) else some (2, 0))))
noncomputable def g_r10_bound_L1 (a0 : GPlan) : (Int × Nat) → Option ((Int × Nat) ⊕ Int) := fun (z28, i29) => (bif decide (i29 < a0.Ports.length) then (a0.Ports[i29]?).bind fun x34 => (g_r07_Most x34).bind fun r35 => some (.inl ((IntKind.i64.wrap (z28 + (IntKind.i64.wrap (3 + r35.1)))), i29 + 1)) else some (.inr z28))
noncomputable def g_r10_bound (a0 : GPlan) : Option Int := (iter (g_r10_bound_L1 a0) ((IntKind.i64.wrap ((IntKind.i64.wrap ((IntKind.i64.wrap ((IntKind.i64.wrap (58 + (IntKind.i64.wrap (76 * ((a0.Procs.length : Nat) : Int))))) + (IntKind.i64.wrap (68 * ((a0.Pages.length : Nat) : Int))))) + a0.Events)) + ((a0.Sems.length : Nat) : Int))), 0)).bind (fun z28 => some z28)
noncomputable def g_r10_Check_L1 (r37 : GR10Err) (r41 : GR10Err) (r45 : GR10Err) (r49 : GR10Err) : Nat → Option (Nat ⊕ (Unit ⊕ GR10Err)) := fun i58 => (bif decide (i58 < [r37, r41, r45, r49].length) then ([r37, r41, r45, r49][i58]?).bind fun x63 => (bif (!decide (x63.Code = 0)) then ([r37, r41, r45, r49][i58]?).bind fun x65 => some (.inr (.inr x65)) else some (.inl (i58 + 1))) else some (.inr (.inl ())))
noncomputable def g_r10_Check (a0 : GPlan) : Option GR10Err := (bif (decide (a0.Id < 0) || decide (2147483647 < a0.Id)) then (g_r10_bad 4).bind fun r28 => some r28 else (g_r10_pages a0).bind fun r37 => (g_r10_procs a0).bind fun r41 => (g_r10_ports a0).bind fun r45 => (g_r10_things a0).bind fun r49 => (iter (g_r10_Check_L1 r37 r41 r45 r49) 0).bind (fun q => match q with | .inl _ => (g_r10_bound a0).bind fun r68 => (bif decide (4096 < r68) then (g_r10_bad 11).bind fun r73 => some r73 else (g_r10_none).bind fun r79 => some r79) | .inr p => some p))
noncomputable def g_r10_Good (a0 : GPlan) : Option Bool := (g_r10_Check a0).bind fun r24 => some (decide (r24.Code = 0))
noncomputable def g_r10_Copy (a0 : GPlan) : Option GPlan := chk ((([] : List GPagePlan).length + a0.Pages.length) * 24 ≤ 140737488355328) (chk ((([] : List GProcPlan).length + a0.Procs.length) * 24 ≤ 140737488355328) (chk ((([] : List GPortPlan).length + a0.Ports.length) * 32 ≤ 140737488355328) (chk ((([] : List Int).length + a0.Sems.length) * 8 ≤ 140737488355328) (some (⟨a0.Id, a0.Mobile, (([] : List GPagePlan) ++ a0.Pages), (([] : List GProcPlan) ++ a0.Procs), (([] : List GPortPlan) ++ a0.Ports), a0.Events, (([] : List Int) ++ a0.Sems)⟩ : GPlan)))))
noncomputable def g_law10_same (a0 : ErrM) (a1 : Int) : Option Bool := (bif decide ((ErrM.code a0) = a1) then some (decide ((ErrM.place a0) = (-1))) else some false)
noncomputable def g_r10_Bound (a0 : GPlan) : Option (Int × Int) := (g_r10_Good a0).bind fun r24 => (bif (!r24) then some (0, 8) else (g_r10_bound a0).bind fun r29 => some (r29, 0))
noncomputable def g_r10_Span (a0 : GPlan) : Option (Int × Int) := (g_r10_Good a0).bind fun r24 => (bif (!r24) then some (0, 8) else some ((IntKind.i64.wrap (64 * ((a0.Pages.length : Nat) : Int))), 0))
noncomputable def g_plan_Span (a0 : GPlan) : Option (Int × ErrM) := (g_plan_Check a0).bind fun r24 => (bif (!decide (r24 = .nil)) then some (0, (.v gPlan)) else some ((IntKind.i64.wrap (64 * ((a0.Pages.length : Nat) : Int))), .nil))
theorem eqInGPagePlan (x y : GPagePlan) : EqIn Tryd.prog 41 2 (.agg (eGPagePlan x).toArray) (.agg (eGPagePlan y).toArray) (decide (x = y)) := by
  have h := eqIn_struct (m := 1) st41 (eqFs_cons (part_one (cs := eGPagePlan x) (v := Value.int .i64 x.Rights) ag3 rfl) (part_one (cs := eGPagePlan y) (v := Value.int .i64 y.Rights) ag3 rfl) ((eqIn_int Tryd.underlying3).mono (by omega)) (eqFs_cons (part_one (cs := eGPagePlan x) (v := Value.string x.Init) ag9 rfl) (part_one (cs := eGPagePlan y) (v := Value.string y.Init) ag9 rfl) ((eqIn_string Tryd.underlying9).mono (by omega)) eqFs_nil))
  have e : decide (x = y) = (decide (x.Rights = y.Rights) && (decide (x.Init = y.Init) && true)) := by
    cases x; cases y; simp [Bool.decide_and]
  rw [e]; exact h
noncomputable def g_slices_Equal_PagePlan_L1 (a0 : List GPagePlan) (a1 : List GPagePlan) : Nat → Option (Nat ⊕ (Unit ⊕ Bool)) := fun i25 => (bif decide (i25 < a0.length) then (a0[i25]?).bind fun x29 => (a1[i25]?).bind fun x30 => (bif (!decide (x29 = x30)) then some (.inr (.inr false)) else some (.inl (i25 + 1))) else some (.inr (.inl ())))
noncomputable def g_slices_Equal_PagePlan (a0 : List GPagePlan) (a1 : List GPagePlan) : Option Bool := (bif (!decide (a0.length = a1.length)) then some false else (iter (g_slices_Equal_PagePlan_L1 a0 a1) 0).bind (fun q => match q with | .inl _ => some true | .inr p => some p))
theorem eqInGProcPlan (x y : GProcPlan) : EqIn Tryd.prog 43 2 (.agg (eGProcPlan x).toArray) (.agg (eGProcPlan y).toArray) (decide (x = y)) := by
  have h := eqIn_struct (m := 1) st43 (eqFs_cons (part_one (cs := eGProcPlan x) (v := Value.int .i64 x.Entry) ag3 rfl) (part_one (cs := eGProcPlan y) (v := Value.int .i64 y.Entry) ag3 rfl) ((eqIn_int Tryd.underlying3).mono (by omega)) (eqFs_cons (part_one (cs := eGProcPlan x) (v := Value.int .i64 x.Prio) ag3 rfl) (part_one (cs := eGProcPlan y) (v := Value.int .i64 y.Prio) ag3 rfl) ((eqIn_int Tryd.underlying3).mono (by omega)) (eqFs_cons (part_one (cs := eGProcPlan x) (v := Value.bool x.Auto) ag4 rfl) (part_one (cs := eGProcPlan y) (v := Value.bool y.Auto) ag4 rfl) ((eqIn_bool Tryd.underlying4).mono (by omega)) eqFs_nil)))
  have e : decide (x = y) = (decide (x.Entry = y.Entry) && (decide (x.Prio = y.Prio) && (decide (x.Auto = y.Auto) && true))) := by
    cases x; cases y; simp [Bool.decide_and]
  rw [e]; exact h
noncomputable def g_slices_Equal_ProcPlan_L1 (a0 : List GProcPlan) (a1 : List GProcPlan) : Nat → Option (Nat ⊕ (Unit ⊕ Bool)) := fun i25 => (bif decide (i25 < a0.length) then (a0[i25]?).bind fun x29 => (a1[i25]?).bind fun x30 => (bif (!decide (x29 = x30)) then some (.inr (.inr false)) else some (.inl (i25 + 1))) else some (.inr (.inl ())))
noncomputable def g_slices_Equal_ProcPlan (a0 : List GProcPlan) (a1 : List GProcPlan) : Option Bool := (bif (!decide (a0.length = a1.length)) then some false else (iter (g_slices_Equal_ProcPlan_L1 a0 a1) 0).bind (fun q => match q with | .inl _ => some true | .inr p => some p))
theorem eqInGPortPlan (x y : GPortPlan) : EqIn Tryd.prog 70 2 (.agg (eGPortPlan x).toArray) (.agg (eGPortPlan y).toArray) (decide (x = y)) := by
  have h := eqIn_struct (m := 1) st70 (eqFs_cons (part_one (cs := eGPortPlan x) (v := Value.int .i64 x.Kind) ag3 rfl) (part_one (cs := eGPortPlan y) (v := Value.int .i64 y.Kind) ag3 rfl) ((eqIn_int Tryd.underlying3).mono (by omega)) (eqFs_cons (part_one (cs := eGPortPlan x) (v := Value.int .i64 x.Size) ag3 rfl) (part_one (cs := eGPortPlan y) (v := Value.int .i64 y.Size) ag3 rfl) ((eqIn_int Tryd.underlying3).mono (by omega)) (eqFs_cons (part_one (cs := eGPortPlan x) (v := Value.int .i64 x.Depth) ag3 rfl) (part_one (cs := eGPortPlan y) (v := Value.int .i64 y.Depth) ag3 rfl) ((eqIn_int Tryd.underlying3).mono (by omega)) (eqFs_cons (part_one (cs := eGPortPlan x) (v := Value.int .i64 x.Refresh) ag3 rfl) (part_one (cs := eGPortPlan y) (v := Value.int .i64 y.Refresh) ag3 rfl) ((eqIn_int Tryd.underlying3).mono (by omega)) eqFs_nil))))
  have e : decide (x = y) = (decide (x.Kind = y.Kind) && (decide (x.Size = y.Size) && (decide (x.Depth = y.Depth) && (decide (x.Refresh = y.Refresh) && true)))) := by
    cases x; cases y; simp [Bool.decide_and]
  rw [e]; exact h
noncomputable def g_slices_Equal_PortPlan_L1 (a0 : List GPortPlan) (a1 : List GPortPlan) : Nat → Option (Nat ⊕ (Unit ⊕ Bool)) := fun i25 => (bif decide (i25 < a0.length) then (a0[i25]?).bind fun x29 => (a1[i25]?).bind fun x30 => (bif (!decide (x29 = x30)) then some (.inr (.inr false)) else some (.inl (i25 + 1))) else some (.inr (.inl ())))
noncomputable def g_slices_Equal_PortPlan (a0 : List GPortPlan) (a1 : List GPortPlan) : Option Bool := (bif (!decide (a0.length = a1.length)) then some false else (iter (g_slices_Equal_PortPlan_L1 a0 a1) 0).bind (fun q => match q with | .inl _ => some true | .inr p => some p))
noncomputable def g_slices_Equal_int_L1 (a0 : List Int) (a1 : List Int) : Nat → Option (Nat ⊕ (Unit ⊕ Bool)) := fun i25 => (bif decide (i25 < a0.length) then (a0[i25]?).bind fun x29 => (a1[i25]?).bind fun x30 => (bif (!decide (x29 = x30)) then some (.inr (.inr false)) else some (.inl (i25 + 1))) else some (.inr (.inl ())))
noncomputable def g_slices_Equal_int (a0 : List Int) (a1 : List Int) : Option Bool := (bif (!decide (a0.length = a1.length)) then some false else (iter (g_slices_Equal_int_L1 a0 a1) 0).bind (fun q => match q with | .inl _ => some true | .inr p => some p))
noncomputable def g_plan_Same (a0 : GPlan) (a1 : GPlan) : Option Bool := (bif decide (a0.Id = a1.Id) then (bif (a0.Mobile == a1.Mobile) then (bif decide (a0.Events = a1.Events) then (g_slices_Equal_PagePlan a0.Pages a1.Pages).bind fun r30 => (bif r30 then (g_slices_Equal_ProcPlan a0.Procs a1.Procs).bind fun r35 => (bif r35 then (g_slices_Equal_PortPlan a0.Ports a1.Ports).bind fun r40 => (bif r40 then (g_slices_Equal_int a0.Sems a1.Sems).bind fun r45 => some r45 else some false) else some false) else some false) else some false) else some false) else some false)
noncomputable def g_r10_Same_L1 (a0 : GPlan) (a1 : GPlan) : Nat → Option (Nat ⊕ (Unit ⊕ Bool)) := fun i67 => (bif decide (i67 < a0.Sems.length) then (a0.Sems[i67]?).bind fun x71 => (a1.Sems[i67]?).bind fun x72 => (bif (!decide (x71 = x72)) then some (.inr (.inr false)) else some (.inl (i67 + 1))) else some (.inr (.inl ())))
noncomputable def g_r10_Same_L2 (a0 : GPlan) (a1 : GPlan) : Nat → Option (Nat ⊕ (Unit ⊕ Bool)) := fun i57 => (bif decide (i57 < a0.Ports.length) then (a0.Ports[i57]?).bind fun x61 => (a1.Ports[i57]?).bind fun x62 => (bif (!decide (x61 = x62)) then some (.inr (.inr false)) else some (.inl (i57 + 1))) else some (.inr (.inl ())))
noncomputable def g_r10_Same_L3 (a0 : GPlan) (a1 : GPlan) : Nat → Option (Nat ⊕ (Unit ⊕ Bool)) := fun i47 => (bif decide (i47 < a0.Procs.length) then (a0.Procs[i47]?).bind fun x51 => (a1.Procs[i47]?).bind fun x52 => (bif (!decide (x51 = x52)) then some (.inr (.inr false)) else some (.inl (i47 + 1))) else some (.inr (.inl ())))
noncomputable def g_r10_Same_L4 (a0 : GPlan) (a1 : GPlan) : Nat → Option (Nat ⊕ (Unit ⊕ Bool)) := fun i37 => (bif decide (i37 < a0.Pages.length) then (a0.Pages[i37]?).bind fun x41 => (a1.Pages[i37]?).bind fun x42 => (bif (!decide (x41 = x42)) then some (.inr (.inr false)) else some (.inl (i37 + 1))) else some (.inr (.inl ())))
noncomputable def g_r10_Same (a0 : GPlan) (a1 : GPlan) : Option Bool := (bif (((((((!decide (a0.Id = a1.Id)) || (!(a0.Mobile == a1.Mobile))) || (!decide (a0.Events = a1.Events))) || (!decide (a0.Pages.length = a1.Pages.length))) || (!decide (a0.Procs.length = a1.Procs.length))) || (!decide (a0.Ports.length = a1.Ports.length))) || (!decide (a0.Sems.length = a1.Sems.length))) then some false else (iter (g_r10_Same_L4 a0 a1) 0).bind (fun q => match q with | .inl _ => (iter (g_r10_Same_L3 a0 a1) 0).bind (fun q => match q with | .inl _ => (iter (g_r10_Same_L2 a0 a1) 0).bind (fun q => match q with | .inl _ => (iter (g_r10_Same_L1 a0 a1) 0).bind (fun q => match q with | .inl _ => some true | .inr p => some p) | .inr p => some p) | .inr p => some p) | .inr p => some p))
structure GL10Case where
  P : GPlan
  Q : GPlan
  B : List UInt8
  At : Int
  Mask : Int
  deriving DecidableEq
def RGL10Case (w : World) (cs : List Value) (x : GL10Case) : Prop := ∃ v0 v1 v2 v3 v4 v5 v6 v7 v8, cs = [.int .i64 x.P.Id, .bool x.P.Mobile, v0, v1, v2, .int .i64 x.P.Events, v3, .int .i64 x.Q.Id, .bool x.Q.Mobile, v4, v5, v6, .int .i64 x.Q.Events, v7, v8, .int .i64 x.At, .int .u32 x.Mask] ∧ SlR w 2 (Flat eGPagePlan) v0 x.P.Pages ∧ SlR w 3 (Flat eGProcPlan) v1 x.P.Procs ∧ SlR w 4 (Flat eGPortPlan) v2 x.P.Ports ∧ SlR w 1 (Flat eI) v3 x.P.Sems ∧ SlR w 2 (Flat eGPagePlan) v4 x.Q.Pages ∧ SlR w 3 (Flat eGProcPlan) v5 x.Q.Procs ∧ SlR w 4 (Flat eGPortPlan) v6 x.Q.Ports ∧ SlR w 1 (Flat eI) v7 x.Q.Sems ∧ SlR w 1 (Flat eB) v8 x.B
theorem RGL10Case.mono : Mono RGL10Case := by
  intro w w' cs x e h
  obtain ⟨v0, v1, v2, v3, v4, v5, v6, v7, v8, rfl, h0, h1, h2, h3, h4, h5, h6, h7, h8⟩ := h
  exact ⟨v0, v1, v2, v3, v4, v5, v6, v7, v8, rfl, h0.agr (Flat.mono _) e, h1.agr (Flat.mono _) e, h2.agr (Flat.mono _) e, h3.agr (Flat.mono _) e, h4.agr (Flat.mono _) e, h5.agr (Flat.mono _) e, h6.agr (Flat.mono _) e, h7.agr (Flat.mono _) e, h8.agr (Flat.mono _) e⟩
noncomputable def g_law10_PlanChecks_J28 (i33 : Nat) : Bool → Option (Nat ⊕ (Unit ⊕ Bool)) := fun q1633 => (bif q1633 then some (.inr (.inr false)) else some (.inl (i33 + 1)))
noncomputable def g_law10_PlanChecks_J29 (a0 : GL10Case) (i33 : Nat) (r53 : Int × Int) : Bool → Option (Nat ⊕ (Unit ⊕ Bool)) := fun q1105 => (bif q1105 then some (.inr (.inr false)) else ([a0.P, a0.Q][i33]?).bind fun x1113 => (g_r10_Copy x1113).bind fun r1114 => (g_plan_Span r1114).bind fun r1126 => (((bif (!decide (r1126.1 = r53.1)) then some true else (g_law10_same r1126.2 r53.2).bind fun r1635 => some (!r1635))) : Option Bool).bind (fun p => (g_law10_PlanChecks_J28 i33) p))
noncomputable def g_law10_PlanChecks_J30 (a0 : GL10Case) (i33 : Nat) (r48 : Int × Int) (r53 : Int × Int) : Bool → Option (Nat ⊕ (Unit ⊕ Bool)) := fun q577 => (bif q577 then some (.inr (.inr false)) else ([a0.P, a0.Q][i33]?).bind fun x585 => (g_r10_Copy x585).bind fun r586 => (g_plan_Bound r586).bind fun r598 => (((bif (!decide (r598.1 = r48.1)) then some true else (g_law10_same r598.2 r48.2).bind fun r1107 => some (!r1107))) : Option Bool).bind (fun p => (g_law10_PlanChecks_J29 a0 i33 r53) p))
noncomputable def g_law10_PlanChecks_L31 (a0 : GL10Case) : Nat → Option (Nat ⊕ (Unit ⊕ Bool)) := fun i33 => (bif decide (i33 < 2) then ([a0.P, a0.Q][i33]?).bind fun x37 => (g_r10_Check x37).bind fun r38 => ([a0.P, a0.Q][i33]?).bind fun x47 => (g_r10_Bound x47).bind fun r48 => ([a0.P, a0.Q][i33]?).bind fun x52 => (g_r10_Span x52).bind fun r53 => ([a0.P, a0.Q][i33]?).bind fun x57 => (g_r10_Copy x57).bind fun r58 => (g_plan_Check r58).bind fun r70 => (((bif (!decide ((ErrM.code r70) = r38.Code)) then some true else some (!decide ((ErrM.place r70) = r38.Place)))) : Option Bool).bind (fun p => (g_law10_PlanChecks_J30 a0 i33 r48 r53) p) else some (.inr (.inl ())))
noncomputable def g_law10_PlanChecks (a0 : GL10Case) : Option Bool := (g_law10_fixed).bind fun r24 => (bif (!r24) then some false else (iter (g_law10_PlanChecks_L31 a0) 0).bind (fun q => match q with | .inl _ => (g_r10_Copy a0.P).bind fun r1644 => (g_r10_Copy a0.Q).bind fun r1656 => (g_plan_Same r1644 r1656).bind fun r1668 => (g_r10_Same a0.P a0.Q).bind fun r1672 => (bif (r1668 == r1672) then (g_r10_Copy a0.P).bind fun r1677 => (g_r10_Copy a0.P).bind fun r1689 => (g_plan_Same r1677 r1689).bind fun r1701 => some r1701 else some false) | .inr p => some p))
noncomputable def g_law10_PlanGrows_J14 (i606 : Nat) : Bool → Option (Nat ⊕ (Unit ⊕ Bool)) := fun q2195 => (bif q2195 then some (.inr (.inr false)) else some (.inl (i606 + 1)))
noncomputable def g_law10_PlanGrows_J15 (r594 : Int × ErrM) (i606 : Nat) (r1182 : Int × ErrM) : Bool → Option (Nat ⊕ (Unit ⊕ Bool)) := fun q1689 => (((bif (!(decide (r1182.2 = .nil) == q1689)) then some true else (bif q1689 then ([68, 76, 1, 1][i606]?).bind fun x2199 => (bif (!decide (r1182.1 = (IntKind.i64.wrap (r594.1 + x2199)))) then some true else (bif (!q1689) then (g_law10_same r1182.2 8).bind fun r2202 => some (!r2202) else some false)) else (bif (!q1689) then (g_law10_same r1182.2 8).bind fun r2207 => some (!r2207) else some false)))) : Option Bool).bind (fun p => (g_law10_PlanGrows_J14 i606) p)
noncomputable def g_law10_PlanGrows_J16 (r594 : Int × ErrM) (i606 : Nat) (r610 : GPlan) : (Bool × List GPagePlan × List GProcPlan × Int × List Int) → Option (Nat ⊕ (Unit ⊕ Bool)) := fun (q1128, l1129, l1132, z1135, l1136) => (g_plan_Bound (⟨r610.Id, r610.Mobile, l1129, l1132, r610.Ports, z1135, l1136⟩ : GPlan)).bind fun r1182 => (((bif q1128 then ([68, 76, 1, 1][i606]?).bind fun x1692 => some (decide ((IntKind.i64.wrap (r594.1 + x1692)) ≤ 4096)) else some false)) : Option Bool).bind (fun p => (g_law10_PlanGrows_J15 r594 i606 r1182) p)
noncomputable def g_law10_PlanGrows_L17 (z547 : Int) (q548 : Bool) (l549 : List GPagePlan) (l552 : List GProcPlan) (l555 : List GPortPlan) (z558 : Int) (l559 : List Int) (r594 : Int × ErrM) : Nat → Option (Nat ⊕ (Unit ⊕ Bool)) := fun i606 => (bif decide (i606 < 4) then (g_r10_Copy (⟨z547, q548, l549, l552, l555, z558, l559⟩ : GPlan)).bind fun r610 => (((bif decide (i606 = 0) then chk ((r610.Pages.length + [(⟨0, ⟨#[]⟩⟩ : GPagePlan)].length) * 24 ≤ 140737488355328) (some (decide (r610.Pages.length < 32), (r610.Pages ++ [(⟨0, ⟨#[]⟩⟩ : GPagePlan)]), r610.Procs, r610.Events, r610.Sems)) else (bif decide (i606 = 1) then chk ((r610.Procs.length + [(⟨0, 0, false⟩ : GProcPlan)].length) * 24 ≤ 140737488355328) (some (decide (r610.Procs.length < 8), r610.Pages, (r610.Procs ++ [(⟨0, 0, false⟩ : GProcPlan)]), r610.Events, r610.Sems)) else (bif decide (i606 = 2) then some (decide (r610.Events < 8), r610.Pages, r610.Procs, (IntKind.i64.wrap (r610.Events + 1)), r610.Sems) else (bif decide (i606 = 3) then chk ((r610.Sems.length + [255].length) * 8 ≤ 140737488355328) (some (decide (r610.Sems.length < 8), r610.Pages, r610.Procs, r610.Events, (r610.Sems ++ [255]))) else some (true, r610.Pages, r610.Procs, r610.Events, r610.Sems)))))) : Option (Bool × List GPagePlan × List GProcPlan × Int × List Int)).bind (fun p => (g_law10_PlanGrows_J16 r594 i606 r610) p) else some (.inr (.inl ())))
noncomputable def g_law10_PlanGrows_J18 : (Int × Bool × List GPagePlan × List GProcPlan × List GPortPlan × Int × List Int) → Option Bool := fun (z547, q548, l549, l552, l555, z558, l559) => (g_r10_Copy (⟨z547, q548, l549, l552, l555, z558, l559⟩ : GPlan)).bind fun r582 => (g_plan_Bound r582).bind fun r594 => (bif ((!decide (r594.2 = .nil)) || decide (4096 < r594.1)) then some false else (iter (g_law10_PlanGrows_L17 z547 q548 l549 l552 l555 z558 l559 r594) 0).bind (fun q => match q with | .inl _ => some true | .inr p => some p))
noncomputable def g_law10_PlanGrows (a0 : GL10Case) : Option Bool := (g_law10_fixed).bind fun r24 => (bif (!r24) then some false else (g_r10_Copy a0.P).bind fun r29 => (((g_r10_Good r29).bind fun r562 => (bif (!r562) then (g_law10_small).bind fun r567 => some (r567.Id, r567.Mobile, r567.Pages, r567.Procs, r567.Ports, r567.Events, r567.Sems) else some (r29.Id, r29.Mobile, r29.Pages, r29.Procs, r29.Ports, r29.Events, r29.Sems))) : Option (Int × Bool × List GPagePlan × List GProcPlan × List GPortPlan × Int × List Int)).bind (fun p => g_law10_PlanGrows_J18 p))
end Go.Proofs.YtpnmaabhjgiggaaDoor
