/- Fa (written by wip/tools) -/
import Derived.Test.YtjoihegnjjjdaaaGreatDoorErrW
import Derived.Test.YtjoihegnjjjdaaaGreatDoorMid
set_option linter.unusedVariables false
set_option linter.unusedSimpArgs false
set_option maxRecDepth 10000
namespace Go.Proofs.YtjoihegnjjjdaaaGreatDoor
open Go Go.RowKit
theorem st61 : structB Tryz.prog 61 = some [(3, 0), (3, 1), (3, 2)] := by kernel_rfl

abbrev gShort : Nat := 0
abbrev gRest : Nat := 1
abbrev gTag : Nat := 2
abbrev gRange : Nat := 3
abbrev gLength : Nat := 4
abbrev gSum : Nat := 5
abbrev gKind : Nat := 6
abbrev gPlan : Nat := 7
abbrev gState : Nat := 8
abbrev gBase : Nat := 9
abbrev gSize : Nat := 11
abbrev gArg : Nat := 10
abbrev gEnd : Nat := 12
abbrev gBusy : Nat := 13
abbrev gDown : Nat := 14
abbrev gLost : Nat := 15
abbrev gNone : Nat := 16
abbrev gText : Nat := 17
abbrev gStop : Nat := 18
abbrev gDivide : Nat := 19
abbrev erQ (A : Nat → Addr) (u : Value) (e : ErrM) : Rs := anyR fun w => IsE A w u e
section
variable {fp : Nat → Prop} {w0 w : World} {rs : List Rs} {A : Nat → Addr} {b g : Nat} {p : Int}
theorem St.dAt (hg : g ∈ gAll) (h : St fp w0 w (blkR b [.int .i64 p, sv 270 A g] 128 :: rs)) : St fp w0 w (erQ A (.iface 124 (.pointer (some ⟨b, 0, none⟩))) (.pl p g) :: rs) := h.blkAny (fun w' h => IsErr.mk hg h)
theorem St.dVar (hg : g ∈ gAll) (h : St fp w0 w rs) : St fp w0 w (erQ A (sv 270 A g) (.v g) :: rs) := h.trivAny fun w' => ⟨hg, rfl⟩
theorem St.dAtE {r e : ErrM} {u : Value} {w2 : World} (hI : IsE A w2 u e) (he : errAt p e = some r) (h : St fp w0 w (blkR b [.int .i64 p, u] 128 :: rs)) : St fp w0 w (erQ A (.iface 124 (.pointer (some ⟨b, 0, none⟩))) r :: rs) := by
  obtain ⟨g, rfl, rfl⟩ := errAt_some he
  obtain ⟨hg, rfl⟩ := hI
  exact h.dAt hg
theorem St.dNil (h : St fp w0 w rs) : St fp w0 w (erQ A .nilIface .nil :: rs) := h.trivAny fun w' => rfl
end
noncomputable def g_plan_at (a0 : Int) (a1 : ErrM) : Option ErrM := (errAt a0 a1).bind fun r24 => some r24
structure GPagePlan where
  Rights : Int
  Init : ByteArray
  deriving DecidableEq
def eGPagePlan (x : GPagePlan) : List Value := [.int .i64 x.Rights, .string x.Init]
theorem eGPagePlan_len (x : GPagePlan) : (eGPagePlan x).length = 2 := by simp [eGPagePlan]
theorem eGPagePlan_one (x : GPagePlan) : ∀ u ∈ eGPagePlan x, u.oneCell' = true := by
  intro u hu
  simp only [eGPagePlan, List.mem_append, List.mem_cons, List.mem_map, List.not_mem_nil, or_false] at hu
  rcases hu with rfl | rfl <;> rfl
structure GProcPlan where
  Entry : Int
  Prio : Int
  Auto : Bool
  deriving DecidableEq
def eGProcPlan (x : GProcPlan) : List Value := [.int .i64 x.Entry, .int .i64 x.Prio, .bool x.Auto]
theorem eGProcPlan_len (x : GProcPlan) : (eGProcPlan x).length = 3 := by simp [eGProcPlan]
theorem eGProcPlan_one (x : GProcPlan) : ∀ u ∈ eGProcPlan x, u.oneCell' = true := by
  intro u hu
  simp only [eGProcPlan, List.mem_append, List.mem_cons, List.mem_map, List.not_mem_nil, or_false] at hu
  rcases hu with rfl | rfl | rfl <;> rfl
structure GPortPlan where
  Kind : Int
  Size : Int
  Depth : Int
  Refresh : Int
  deriving DecidableEq
def eGPortPlan (x : GPortPlan) : List Value := [.int .i64 x.Kind, .int .i64 x.Size, .int .i64 x.Depth, .int .i64 x.Refresh]
theorem eGPortPlan_len (x : GPortPlan) : (eGPortPlan x).length = 4 := by simp [eGPortPlan]
theorem eGPortPlan_one (x : GPortPlan) : ∀ u ∈ eGPortPlan x, u.oneCell' = true := by
  intro u hu
  simp only [eGPortPlan, List.mem_append, List.mem_cons, List.mem_map, List.not_mem_nil, or_false] at hu
  rcases hu with rfl | rfl | rfl | rfl <;> rfl
structure GPlan where
  Id : Int
  Mobile : Bool
  Pages : List GPagePlan
  Procs : List GProcPlan
  Ports : List GPortPlan
  Events : Int
  Sems : List Int
  deriving DecidableEq
def RGPlan (w : World) (cs : List Value) (x : GPlan) : Prop := ∃ v0 v1 v2 v3, cs = [.int .i64 x.Id, .bool x.Mobile, v0, v1, v2, .int .i64 x.Events, v3] ∧ SlR w 2 (Flat eGPagePlan) v0 x.Pages ∧ SlR w 3 (Flat eGProcPlan) v1 x.Procs ∧ SlR w 4 (Flat eGPortPlan) v2 x.Ports ∧ SlR w 1 (Flat eI) v3 x.Sems
theorem RGPlan.mono : Mono RGPlan := by
  intro w w' cs x e h
  obtain ⟨v0, v1, v2, v3, rfl, h0, h1, h2, h3⟩ := h
  exact ⟨v0, v1, v2, v3, rfl, h0.agr (Flat.mono _) e, h1.agr (Flat.mono _) e, h2.agr (Flat.mono _) e, h3.agr (Flat.mono _) e⟩
noncomputable def g_plan_checkPages_L1 (a0 : GPlan) : Nat → Option (Nat ⊕ (Unit ⊕ ErrM)) := fun i28 => (bif decide (i28 < a0.Pages.length) then (a0.Pages[i28]?).bind fun x32 => (bif (decide (x32.Rights < 0) || decide (7 < x32.Rights)) then (g_plan_at ((i28 : Nat) : Int) (.v gRange)).bind fun r39 => some (.inr (.inr r39)) else (bif decide (64 < x32.Init.size) then (g_plan_at ((i28 : Nat) : Int) (.v gLength)).bind fun r46 => some (.inr (.inr r46)) else some (.inl (i28 + 1)))) else some (.inr (.inl ())))
noncomputable def g_plan_checkPages (a0 : GPlan) : Option ErrM := (bif (decide (a0.Pages.length < 1) || decide (32 < a0.Pages.length)) then some (.v gSize) else (iter (g_plan_checkPages_L1 a0) 0).bind (fun q => match q with | .inl _ => some .nil | .inr p => some p))
noncomputable def g_plan_checkProcs_J6 (i28 : Nat) : Bool → Option (Nat ⊕ (Unit ⊕ ErrM)) := fun q539 => (bif q539 then (g_plan_at ((i28 : Nat) : Int) (.v gRange)).bind fun r547 => some (.inr (.inr r547)) else some (.inl (i28 + 1)))
noncomputable def g_plan_checkProcs_L7 (a0 : GPlan) : Nat → Option (Nat ⊕ (Unit ⊕ ErrM)) := fun i28 => (bif decide (i28 < a0.Procs.length) then (a0.Procs[i28]?).bind fun x32 => (((bif decide (x32.Entry < 0) then some true else (bif decide ((IntKind.i64.wrap (64 * ((a0.Pages.length : Nat) : Int))) ≤ x32.Entry) then some true else (bif (!decide ((Int.tmod x32.Entry 4) = 0)) then some true else (bif decide (x32.Prio < 0) then some true else some (decide (255 < x32.Prio))))))) : Option Bool).bind (fun p => (g_plan_checkProcs_J6 i28) p) else some (.inr (.inl ())))
noncomputable def g_plan_checkProcs (a0 : GPlan) : Option ErrM := (bif (decide (a0.Procs.length < 1) || decide (8 < a0.Procs.length)) then some (.v gSize) else (iter (g_plan_checkProcs_L7 a0) 0).bind (fun q => match q with | .inl _ => some .nil | .inr p => some p))
noncomputable def g_port_isQueue (a0 : GPortPlan) : Option Bool := some (decide (a0.Kind = 3) || decide (a0.Kind = 4))
noncomputable def g_port_isIn (a0 : GPortPlan) : Option Bool := some (decide (a0.Kind = 1) || decide (a0.Kind = 3))
noncomputable def g_port_isOut (a0 : GPortPlan) : Option Bool := some (decide (a0.Kind = 2) || decide (a0.Kind = 4))
noncomputable def g_port_CheckPlan_J1 (a0 : GPortPlan) (i525 : Nat) (i1033 : Nat) : Bool → Option ErrM := fun q1537 => (bif q1537 then some (.v gKind) else (bif (decide (a0.Size < 1) || decide (32 < a0.Size)) then some (.v gSize) else (bif (((decide (a0.Depth < 1) || decide (((i525 : Nat) : Int) < a0.Depth)) || decide (a0.Refresh < 0)) || decide (((i1033 : Nat) : Int) < a0.Refresh)) then some (.v gRange) else some .nil)))
noncomputable def g_port_CheckPlan_J2 (a0 : GPortPlan) (i525 : Nat) : Nat → Option ErrM := fun i1033 => (((g_port_isIn a0).bind fun r1538 => (bif (!r1538) then (g_port_isOut a0).bind fun r1543 => some (!r1543) else some false)) : Option Bool).bind (fun p => (g_port_CheckPlan_J1 a0 i525 i1033) p)
noncomputable def g_port_CheckPlan_J3 (a0 : GPortPlan) : Nat → Option ErrM := fun i525 => (((bif decide (a0.Kind = 1) then some 255 else some 0)) : Option Nat).bind (fun p => (g_port_CheckPlan_J2 a0 i525) p)
noncomputable def g_port_CheckPlan (a0 : GPortPlan) : Option ErrM := (((g_port_isQueue a0).bind fun r526 => (bif r526 then some 8 else some 1)) : Option Nat).bind (fun p => (g_port_CheckPlan_J3 a0) p)
noncomputable def g_port_Most (a0 : GPortPlan) : Option (Int × ErrM) := (g_port_CheckPlan a0).bind fun r24 => (bif (!decide (r24 = .nil)) then some (0, (.v gPlan)) else (g_port_isOut a0).bind fun r34 => (bif r34 then some (2, .nil) else some ((IntKind.i64.wrap (2 + (IntKind.i64.wrap (a0.Depth * (IntKind.i64.wrap (1 + a0.Size)))))), .nil)))
noncomputable def g_plan_bound_L1 (a0 : GPlan) : (Int × Nat) → Option ((Int × Nat) ⊕ Int) := fun (z29, i30) => (bif decide (i30 < a0.Ports.length) then (a0.Ports[i30]?).bind fun x34 => (g_port_Most x34).bind fun r40 => some (.inl ((IntKind.i64.wrap (z29 + (IntKind.i64.wrap (3 + r40.1)))), i30 + 1)) else some (.inr z29))
noncomputable def g_plan_bound (a0 : GPlan) : Option Int := (iter (g_plan_bound_L1 a0) ((IntKind.i64.wrap ((IntKind.i64.wrap ((IntKind.i64.wrap ((IntKind.i64.wrap (58 + (IntKind.i64.wrap (76 * ((a0.Procs.length : Nat) : Int))))) + (IntKind.i64.wrap (68 * ((a0.Pages.length : Nat) : Int))))) + a0.Events)) + ((a0.Sems.length : Nat) : Int))), 0)).bind (fun z29 => some z29)
noncomputable def g_plan_checkRest_L1 (a0 : GPlan) : Nat → Option (Nat ⊕ (Unit ⊕ ErrM)) := fun i57 => (bif decide (i57 < a0.Sems.length) then (a0.Sems[i57]?).bind fun x61 => (bif (decide (x61 < 0) || decide (255 < x61)) then (g_plan_at ((i57 : Nat) : Int) (.v gRange)).bind fun r63 => some (.inr (.inr r63)) else some (.inl (i57 + 1))) else some (.inr (.inl ())))
noncomputable def g_plan_checkRest_L2 (a0 : GPlan) : Nat → Option (Nat ⊕ (Unit ⊕ ErrM)) := fun i28 => (bif decide (i28 < a0.Ports.length) then (a0.Ports[i28]?).bind fun x32 => (g_port_CheckPlan x32).bind fun r38 => (bif (!decide (r38 = .nil)) then (g_plan_at ((i28 : Nat) : Int) r38).bind fun r45 => some (.inr (.inr r45)) else some (.inl (i28 + 1))) else some (.inr (.inl ())))
noncomputable def g_plan_checkRest (a0 : GPlan) : Option ErrM := (bif decide (8 < a0.Ports.length) then some (.v gSize) else (iter (g_plan_checkRest_L2 a0) 0).bind (fun q => match q with | .inl _ => (bif (decide (a0.Events < 0) || decide (8 < a0.Events)) then some (.v gRange) else (bif decide (8 < a0.Sems.length) then some (.v gSize) else (iter (g_plan_checkRest_L1 a0) 0).bind (fun q => match q with | .inl _ => (g_plan_bound a0).bind fun r69 => (bif decide (4096 < r69) then some (.v gSize) else some .nil) | .inr p => some p))) | .inr p => some p))
noncomputable def g_plan_Check (a0 : GPlan) : Option ErrM := (bif (decide (a0.Id < 0) || decide (2147483647 < a0.Id)) then some (.v gRange) else (g_plan_checkPages a0).bind fun r30 => (bif (!decide (r30 = .nil)) then some r30 else (g_plan_checkProcs a0).bind fun r38 => (bif (!decide (r38 = .nil)) then some r38 else (g_plan_checkRest a0).bind fun r46 => (bif (!decide (r46 = .nil)) then some r46 else some .nil))))
noncomputable def g_frame_at (a0 : Int) (a1 : ErrM) : Option ErrM := (errAt a0 a1).bind fun r24 => some r24
structure GWindow where
  Part : Int
  Start : Int
  Len : Int
  deriving DecidableEq
def eGWindow (x : GWindow) : List Value := [.int .i64 x.Part, .int .i64 x.Start, .int .i64 x.Len]
theorem eGWindow_len (x : GWindow) : (eGWindow x).length = 3 := by simp [eGWindow]
theorem eGWindow_one (x : GWindow) : ∀ u ∈ eGWindow x, u.oneCell' = true := by
  intro u hu
  simp only [eGWindow, List.mem_append, List.mem_cons, List.mem_map, List.not_mem_nil, or_false] at hu
  rcases hu with rfl | rfl | rfl <;> rfl
structure GLink where
  From : Int
  Out : Int
  To : Int
  In : Int
  deriving DecidableEq
def eGLink (x : GLink) : List Value := [.int .i64 x.From, .int .i64 x.Out, .int .i64 x.To, .int .i64 x.In]
theorem eGLink_len (x : GLink) : (eGLink x).length = 4 := by simp [eGLink]
theorem eGLink_one (x : GLink) : ∀ u ∈ eGLink x, u.oneCell' = true := by
  intro u hu
  simp only [eGLink, List.mem_append, List.mem_cons, List.mem_map, List.not_mem_nil, or_false] at hu
  rcases hu with rfl | rfl | rfl | rfl <;> rfl
structure GConfig where
  Ticks : Int
  Parts : List GPlan
  Homes : List Int
  Windows : List GWindow
  Links : List GLink
  Tries : Int
  deriving DecidableEq
def RGConfig (w : World) (cs : List Value) (x : GConfig) : Prop := ∃ v0 v1 v2 v3, cs = [.int .i64 x.Ticks, v0, v1, v2, v3, .int .i64 x.Tries] ∧ SlR w 7 RGPlan v0 x.Parts ∧ SlR w 1 (Flat eI) v1 x.Homes ∧ SlR w 3 (Flat eGWindow) v2 x.Windows ∧ SlR w 4 (Flat eGLink) v3 x.Links
theorem RGConfig.mono : Mono RGConfig := by
  intro w w' cs x e h
  obtain ⟨v0, v1, v2, v3, rfl, h0, h1, h2, h3⟩ := h
  exact ⟨v0, v1, v2, v3, rfl, h0.agr RGPlan.mono e, h1.agr (Flat.mono _) e, h2.agr (Flat.mono _) e, h3.agr (Flat.mono _) e⟩
noncomputable def g_frame_checkParts_L1 (a0 : GConfig) : Nat → Option (Nat ⊕ (Unit ⊕ ErrM)) := fun i64 => (bif decide (i64 < a0.Homes.length) then (a0.Homes[i64]?).bind fun x68 => (bif ((!decide (x68 = 0)) && (!decide (x68 = 1))) then (g_frame_at ((i64 : Nat) : Int) (.v gRange)).bind fun r70 => some (.inr (.inr r70)) else some (.inl (i64 + 1))) else some (.inr (.inl ())))
noncomputable def g_frame_checkParts_L2 (a0 : GConfig) : Nat → Option (Nat ⊕ (Unit ⊕ ErrM)) := fun i30 => (bif decide (i30 < a0.Parts.length) then (a0.Parts[i30]?).bind fun x34 => (g_plan_Check x34).bind fun r40 => (bif (!decide (r40 = .nil)) then (g_frame_at ((i30 : Nat) : Int) (.v gPlan)).bind fun r47 => some (.inr (.inr r47)) else (bif (!decide (x34.Id = ((i30 : Nat) : Int))) then (g_frame_at ((i30 : Nat) : Int) (.v gArg)).bind fun r54 => some (.inr (.inr r54)) else some (.inl (i30 + 1)))) else some (.inr (.inl ())))
noncomputable def g_frame_checkParts (a0 : GConfig) : Option ErrM := (bif (((decide (a0.Ticks < 1) || decide (10000 < a0.Ticks)) || decide (a0.Tries < 1)) || decide (64 < a0.Tries)) then some (.v gRange) else (bif (decide (a0.Parts.length < 1) || decide (8 < a0.Parts.length)) then some (.v gSize) else (iter (g_frame_checkParts_L2 a0) 0).bind (fun q => match q with | .inl _ => (bif (!decide (a0.Homes.length = a0.Parts.length)) then some (.v gSize) else (iter (g_frame_checkParts_L1 a0) 0).bind (fun q => match q with | .inl _ => some .nil | .inr p => some p)) | .inr p => some p)))
noncomputable def g_frame_there (a0 : GConfig) (a1 : Int) : Option Bool := some (decide (0 ≤ a1) && decide (a1 < ((a0.Parts.length : Nat) : Int)))
noncomputable def g_frame_owner (a0 : GConfig) (a1 : Int) : Option Bool := (bif decide (a1 = (-1)) then some true else (g_frame_there a0 a1).bind fun r25 => some r25)
noncomputable def g_slices_IndexFunc_Window_L1 (a0 : List GWindow) (a1 : GWindow → Option Bool) : Nat → Option (Nat ⊕ (Unit ⊕ Int)) := fun i23 => (bif decide (i23 < a0.length) then (a0[i23]?).bind fun x27 => (a1 x27).bind fun r28 => (bif r28 then some (.inr (.inr ((i23 : Nat) : Int))) else some (.inl (i23 + 1))) else some (.inr (.inl ())))
noncomputable def g_slices_IndexFunc_Window (a0 : List GWindow) (a1 : GWindow → Option Bool) : Option Int := (iter (g_slices_IndexFunc_Window_L1 a0 a1) 0).bind (fun q => match q with | .inl _ => some (-1) | .inr p => some p)
noncomputable def g_slices_ContainsFunc_Window (a0 : List GWindow) (a1 : GWindow → Option Bool) : Option Bool := (g_slices_IndexFunc_Window a0 a1).bind fun r21 => some (decide (0 ≤ r21))
noncomputable def g_frame_has_1 (a0 : GWindow) (a1 : Int) : Option Bool := some (decide (a0.Part = a1))
noncomputable def g_frame_has (a0 : GConfig) (a1 : Int) : Option Bool := (g_slices_ContainsFunc_Window a0.Windows (fun x0 => g_frame_has_1 x0 a1)).bind fun r27 => some r27
noncomputable def g_frame_checkWindows_L1 (a0 : GConfig) : Nat → Option (Nat ⊕ (Unit ⊕ ErrM)) := fun i67 => (bif decide (i67 < a0.Parts.length) then (g_frame_has a0 ((i67 : Nat) : Int)).bind fun r71 => (bif (!r71) then (g_frame_at ((i67 : Nat) : Int) (.v gNone)).bind fun r76 => some (.inr (.inr r76)) else some (.inl (i67 + 1))) else some (.inr (.inl ())))
noncomputable def g_frame_checkWindows_L2 (a0 : GConfig) : (Int × Nat) → Option ((Int × Nat) ⊕ (Unit ⊕ ErrM)) := fun (z30, i29) => (bif decide (i29 < a0.Windows.length) then (a0.Windows[i29]?).bind fun x34 => (g_frame_owner a0 x34.Part).bind fun r40 => (bif (!r40) then (g_frame_at ((i29 : Nat) : Int) (.v gArg)).bind fun r45 => some (.inr (.inr r45)) else (bif (((decide (x34.Start < 0) || decide (x34.Len < 1)) || decide (a0.Ticks ≤ x34.Start)) || decide ((IntKind.i64.wrap (a0.Ticks - x34.Start)) < x34.Len)) then (g_frame_at ((i29 : Nat) : Int) (.v gRange)).bind fun r52 => some (.inr (.inr r52)) else (bif decide (x34.Start < z30) then (g_frame_at ((i29 : Nat) : Int) (.v gBusy)).bind fun r59 => some (.inr (.inr r59)) else some (.inl ((IntKind.i64.wrap (x34.Start + x34.Len)), i29 + 1))))) else some (.inr (.inl ())))
noncomputable def g_frame_checkWindows (a0 : GConfig) : Option ErrM := (bif decide (32 < a0.Windows.length) then some (.v gSize) else (iter (g_frame_checkWindows_L2 a0) (0, 0)).bind (fun q => match q with | .inl _ => (iter (g_frame_checkWindows_L1 a0) 0).bind (fun q => match q with | .inl _ => some .nil | .inr p => some p) | .inr p => some p))
noncomputable def g_frame_isPort (a0 : GPlan) (a1 : Int) (a2 : Int) (a3 : Int) : Option Bool := (bif decide (0 ≤ a1) then (bif decide (a1 < ((a0.Ports.length : Nat) : Int)) then (rdI a0.Ports a1).bind fun x27 => (bif decide (x27.Kind = a2) then some true else (rdI a0.Ports a1).bind fun x29 => some (decide (x29.Kind = a3))) else some false) else some false)
noncomputable def g_slices_IndexFunc_Plan_L1 (a0 : List GPlan) (a1 : GPlan → Option Bool) : Nat → Option (Nat ⊕ (Unit ⊕ Int)) := fun i23 => (bif decide (i23 < a0.length) then (a0[i23]?).bind fun x27 => (a1 x27).bind fun r28 => (bif r28 then some (.inr (.inr ((i23 : Nat) : Int))) else some (.inl (i23 + 1))) else some (.inr (.inl ())))
noncomputable def g_slices_IndexFunc_Plan (a0 : List GPlan) (a1 : GPlan → Option Bool) : Option Int := (iter (g_slices_IndexFunc_Plan_L1 a0 a1) 0).bind (fun q => match q with | .inl _ => some (-1) | .inr p => some p)
noncomputable def g_slices_ContainsFunc_Plan (a0 : List GPlan) (a1 : GPlan → Option Bool) : Option Bool := (g_slices_IndexFunc_Plan a0 a1).bind fun r21 => some (decide (0 ≤ r21))
noncomputable def g_frame_checkLinks_1 (a0 : GPlan) : Option Bool := some a0.Mobile
noncomputable def g_frame_checkLinks_J16 (i28 : Nat) : Bool → Option (Nat ⊕ (Unit ⊕ ErrM)) := fun q1573 => (bif q1573 then (g_frame_at ((i28 : Nat) : Int) (.v gKind)).bind fun r1586 => some (.inr (.inr r1586)) else some (.inl (i28 + 1)))
noncomputable def g_frame_checkLinks_J17 (a0 : GConfig) (i28 : Nat) (x32 : GLink) : Bool → Option (Nat ⊕ (Unit ⊕ ErrM)) := fun q1059 => (bif q1059 then (g_frame_at ((i28 : Nat) : Int) (.v gPlan)).bind fun r1066 => some (.inr (.inr r1066)) else (((rdI a0.Parts x32.From).bind fun x1575 => (g_frame_isPort x1575 x32.Out 2 4).bind fun r1576 => (bif (!r1576) then some true else (rdI a0.Parts x32.To).bind fun x1580 => (g_frame_isPort x1580 x32.In 1 3).bind fun r1581 => some (!r1581))) : Option Bool).bind (fun p => (g_frame_checkLinks_J16 i28) p))
noncomputable def g_frame_checkLinks_J18 (a0 : GConfig) (i28 : Nat) (x32 : GLink) : Bool → Option (Nat ⊕ (Unit ⊕ ErrM)) := fun q539 => (bif q539 then (g_frame_at ((i28 : Nat) : Int) (.v gArg)).bind fun r552 => some (.inr (.inr r552)) else (((rdI a0.Parts x32.From).bind fun x1061 => (bif x1061.Mobile then some true else (rdI a0.Parts x32.To).bind fun x1063 => some x1063.Mobile)) : Option Bool).bind (fun p => (g_frame_checkLinks_J17 a0 i28 x32) p))
noncomputable def g_frame_checkLinks_J19 : Bool → Option ErrM := fun q2097 => (bif q2097 then some (.v gNone) else some .nil)
noncomputable def g_frame_checkLinks_L20 (a0 : GConfig) : Nat → Option (Nat ⊕ (Unit ⊕ ErrM)) := fun i28 => (bif decide (i28 < a0.Links.length) then (a0.Links[i28]?).bind fun x32 => (((g_frame_there a0 x32.From).bind fun r540 => (bif (!r540) then some true else (g_frame_there a0 x32.To).bind fun r545 => (bif (!r545) then some true else some (decide (x32.From = x32.To))))) : Option Bool).bind (fun p => (g_frame_checkLinks_J18 a0 i28 x32) p) else some (.inr (.inl ())))
noncomputable def g_frame_checkLinks (a0 : GConfig) : Option ErrM := (bif decide (16 < a0.Links.length) then some (.v gSize) else (iter (g_frame_checkLinks_L20 a0) 0).bind (fun q => match q with | .inl _ => (g_slices_ContainsFunc_Plan a0.Parts (fun x0 => g_frame_checkLinks_1 x0)).bind fun r1592 => (((bif r1592 then (g_frame_has a0 (-1)).bind fun r2099 => some (!r2099) else some false)) : Option Bool).bind (fun p => g_frame_checkLinks_J19 p) | .inr p => some p))
noncomputable def g_frame_Check (a0 : GConfig) : Option ErrM := (g_frame_checkParts a0).bind fun r28 => (bif (!decide (r28 = .nil)) then some r28 else (g_frame_checkWindows a0).bind fun r36 => (bif (!decide (r36 = .nil)) then some r36 else (g_frame_checkLinks a0).bind fun r44 => (bif (!decide (r44 = .nil)) then some r44 else some .nil)))
structure GMsg where
  Port : Int
  Data : ByteArray
  deriving DecidableEq
def eGMsg (x : GMsg) : List Value := [.int .i64 x.Port, .string x.Data]
theorem eGMsg_len (x : GMsg) : (eGMsg x).length = 2 := by simp [eGMsg]
theorem eGMsg_one (x : GMsg) : ∀ u ∈ eGMsg x, u.oneCell' = true := by
  intro u hu
  simp only [eGMsg, List.mem_append, List.mem_cons, List.mem_map, List.not_mem_nil, or_false] at hu
  rcases hu with rfl | rfl <;> rfl
noncomputable def g_frame_Carry_J54 (i1080 : Nat) : (List (List GMsg)) → Option ((List (List GMsg) × Nat) ⊕ (List (List GMsg))) := fun l1585 => some (.inl (l1585, i1080 + 1))
noncomputable def g_frame_Carry_L55 (x561 : GLink) (x1074 : List GMsg) : (List (List GMsg) × Nat) → Option ((List (List GMsg) × Nat) ⊕ (List (List GMsg))) := fun (l1077, i1080) => (bif decide (i1080 < x1074.length) then (((x1074[i1080]?).bind fun x1588 => (bif decide (x1588.Port = x561.Out) then (rdI l1077 x561.To).bind fun x1599 => chk ((x1599.length + [(⟨x561.In, x1588.Data⟩ : GMsg)].length) * 24 ≤ 140737488355328) (some (l1077.set x561.To.toNat (x1599 ++ [(⟨x561.In, x1588.Data⟩ : GMsg)]))) else some l1077)) : Option (List (List GMsg))).bind (fun p => (g_frame_Carry_J54 i1080) p) else some (.inr l1077))
noncomputable def g_frame_Carry_J56 (a2 : List (List GMsg)) (l50 : List (List GMsg)) (x561 : GLink) : Bool → Option (List (List GMsg)) := fun q1068 => (bif q1068 then some l50 else (rdI a2 x561.From).bind fun x1074 => (iter (g_frame_Carry_L55 x561 x1074) (l50, 0)).bind (fun l1077 => some l1077))
noncomputable def g_frame_Carry_J57 (i53 : Nat) : (List (List GMsg)) → Option ((List (List GMsg) × Nat) ⊕ (List (List GMsg))) := fun l558 => some (.inl (l558, i53 + 1))
noncomputable def g_frame_Carry_L58 (a0 : GConfig) (a1 : List Bool) (a2 : List (List GMsg)) : (List (List GMsg) × Nat) → Option ((List (List GMsg) × Nat) ⊕ (List (List GMsg))) := fun (l50, i53) => (bif decide (i53 < a0.Links.length) then (((a0.Links[i53]?).bind fun x561 => (((rdI a1 x561.From).bind fun x1069 => (bif (!x1069) then some true else (rdI a1 x561.To).bind fun x1071 => some (!x1071))) : Option Bool).bind (fun p => (g_frame_Carry_J56 a2 l50 x561) p)) : Option (List (List GMsg))).bind (fun p => (g_frame_Carry_J57 i53) p) else some (.inr l50))
noncomputable def g_frame_Carry (a0 : GConfig) (a1 : List Bool) (a2 : List (List GMsg)) : Option (List (List GMsg) × ErrM) := (g_frame_Check a0).bind fun r24 => (bif (!decide (r24 = .nil)) then some (([] : List (List GMsg)), (.v gPlan)) else (bif ((!decide (a1.length = a0.Parts.length)) || (!decide (a2.length = a0.Parts.length))) then some (([] : List (List GMsg)), (.v gArg)) else chk (a0.Parts.length * 24 ≤ 140737488355328) ((iter (g_frame_Carry_L58 a0 a1 a2) ((List.replicate a0.Parts.length ([] : List GMsg)), 0)).bind (fun l50 => some (l50, .nil)))))
noncomputable def g_law14_small : Option GConfig := some (⟨100, [(⟨0, false, [(⟨5, ⟨#[]⟩⟩ : GPagePlan)], [(⟨0, 0, false⟩ : GProcPlan)], [(⟨4, 4, 2, 0⟩ : GPortPlan)], 0, ([] : List Int)⟩ : GPlan), (⟨1, false, [(⟨5, ⟨#[]⟩⟩ : GPagePlan)], [(⟨0, 0, false⟩ : GProcPlan)], [(⟨3, 4, 2, 0⟩ : GPortPlan)], 0, ([] : List Int)⟩ : GPlan)], [0, 0], [(⟨0, 0, 40⟩ : GWindow), (⟨(-1), 50, 10⟩ : GWindow), (⟨1, 60, 20⟩ : GWindow), (⟨0, 80, 20⟩ : GWindow)], [(⟨0, 0, 1, 0⟩ : GLink)], 5⟩ : GConfig)
noncomputable def g_frame_Windows_J3 (i49 : Nat) : (List GWindow) → Option ((List GWindow × Nat) ⊕ (List GWindow)) := fun l555 => some (.inl (l555, i49 + 1))
noncomputable def g_frame_Windows_L4 (a0 : GConfig) (a1 : Int) : (List GWindow × Nat) → Option ((List GWindow × Nat) ⊕ (List GWindow)) := fun (l46, i49) => (bif decide (i49 < a0.Windows.length) then (((a0.Windows[i49]?).bind fun x558 => (bif decide (x558.Part = a1) then chk ((l46.length + [x558].length) * 24 ≤ 140737488355328) (some (l46 ++ [x558])) else some l46)) : Option (List GWindow)).bind (fun p => (g_frame_Windows_J3 i49) p) else some (.inr l46))
noncomputable def g_frame_Windows (a0 : GConfig) (a1 : Int) : Option (List GWindow × ErrM) := (g_frame_Check a0).bind fun r24 => (bif (!decide (r24 = .nil)) then some (([] : List GWindow), (.v gPlan)) else (g_frame_owner a0 a1).bind fun r35 => (bif (!r35) then some (([] : List GWindow), (.v gArg)) else (iter (g_frame_Windows_L4 a0 a1) (([] : List GWindow), 0)).bind (fun l46 => some (l46, .nil))))
noncomputable def g_frame_sum_L1 (a0 : List GWindow) : (Int × Nat) → Option ((Int × Nat) ⊕ Int) := fun (z25, i24) => (bif decide (i24 < a0.length) then (a0[i24]?).bind fun x29 => some (.inl ((IntKind.i64.wrap (z25 + x29.Len)), i24 + 1)) else some (.inr z25))
noncomputable def g_frame_sum (a0 : List GWindow) : Option Int := (iter (g_frame_sum_L1 a0) (0, 0)).bind (fun z25 => some z25)
noncomputable def g_frame_Load (a0 : GConfig) (a1 : Int) : Option (Int × ErrM) := (g_frame_Windows a0 a1).bind fun r24 => (g_frame_sum r24.1).bind fun r32 => some (r32, r24.2)
noncomputable def g_frame_Next_L1 (a2 : Int) (r24 : List GWindow × ErrM) : Nat → Option (Nat ⊕ (Unit ⊕ (Int × ErrM))) := fun i39 => (bif decide (i39 < r24.1.length) then (r24.1[i39]?).bind fun x43 => (bif decide (a2 < (IntKind.i64.wrap (x43.Start + x43.Len))) then some (.inr (.inr ((if x43.Start > a2 then x43.Start else a2), .nil))) else some (.inl (i39 + 1))) else some (.inr (.inl ())))
noncomputable def g_frame_Next (a0 : GConfig) (a1 : Int) (a2 : Int) : Option (Int × ErrM) := (g_frame_Windows a0 a1).bind fun r24 => (bif (!decide (r24.2 = .nil)) then some (0, r24.2) else (bif (decide (a2 < 0) || decide (a0.Ticks ≤ a2)) then some (0, (.v gArg)) else (iter (g_frame_Next_L1 a2 r24) 0).bind (fun q => match q with | .inl _ => some (0, (.v gNone)) | .inr p => some p)))
noncomputable def g_law14_fixed_J3 (r21 : GConfig) : Bool → Option Bool := fun q1082 => (bif q1082 then some false else (g_frame_Check (⟨99, r21.Parts, r21.Homes, r21.Windows, r21.Links, r21.Tries⟩ : GConfig)).bind fun r1098 => (bif decide ((ErrM.code r1098) = 4) then some (decide ((ErrM.place r1098) = 3)) else some false))
noncomputable def g_law14_fixed_J4 (r21 : GConfig) : Bool → Option Bool := fun q545 => (bif q545 then some false else (g_frame_Next r21 0 40).bind fun r556 => (g_frame_Carry r21 [true, true] [[(⟨0, ⟨#[97]⟩⟩ : GMsg)], ([] : List GMsg)]).bind fun r573 => (((bif (!decide (r556.2 = .nil)) then some true else (bif (!decide (r556.1 = 80)) then some true else (bif (!decide (r573.2 = .nil)) then some true else (bif (!decide (r573.1.length = 2)) then some true else (r573.1[1]?).bind fun x1088 => (bif (!decide (x1088.length = 1)) then some true else (r573.1[1]?).bind fun x1091 => (x1091[0]?).bind fun x1093 => some (!decide (x1093.Data = ⟨#[97]⟩)))))))) : Option Bool).bind (fun p => (g_law14_fixed_J3 r21) p))
noncomputable def g_law14_fixed : Option Bool := (g_law14_small).bind fun r21 => (g_frame_Load r21 0).bind fun r38 => (((g_frame_Check r21).bind fun r546 => (bif (!decide (r546 = .nil)) then some true else (bif (!decide (r38.2 = .nil)) then some true else some (!decide (r38.1 = 60))))) : Option Bool).bind (fun p => (g_law14_fixed_J4 r21) p)
structure GR14Err where
  Code : Int
  Place : Int
  deriving DecidableEq
def eGR14Err (x : GR14Err) : List Value := [.int .i64 x.Code, .int .i64 x.Place]
theorem eGR14Err_len (x : GR14Err) : (eGR14Err x).length = 2 := by simp [eGR14Err]
theorem eGR14Err_one (x : GR14Err) : ∀ u ∈ eGR14Err x, u.oneCell' = true := by
  intro u hu
  simp only [eGR14Err, List.mem_append, List.mem_cons, List.mem_map, List.not_mem_nil, or_false] at hu
  rcases hu with rfl | rfl <;> rfl
noncomputable def g_r14_bad (a0 : Int) : Option GR14Err := some (⟨a0, (-1)⟩ : GR14Err)
structure GR10Err where
  Code : Int
  Place : Int
  deriving DecidableEq
def eGR10Err (x : GR10Err) : List Value := [.int .i64 x.Code, .int .i64 x.Place]
theorem eGR10Err_len (x : GR10Err) : (eGR10Err x).length = 2 := by simp [eGR10Err]
theorem eGR10Err_one (x : GR10Err) : ∀ u ∈ eGR10Err x, u.oneCell' = true := by
  intro u hu
  simp only [eGR10Err, List.mem_append, List.mem_cons, List.mem_map, List.not_mem_nil, or_false] at hu
  rcases hu with rfl | rfl <;> rfl
noncomputable def g_r10_bad (a0 : Int) : Option GR10Err := some (⟨a0, (-1)⟩ : GR10Err)
noncomputable def g_r10_none : Option GR10Err := some (⟨0, (-1)⟩ : GR10Err)
noncomputable def g_r10_pages_J12 (a0 : GPlan) (i36 : Nat) : Bool → Option (Nat ⊕ (Unit ⊕ GR10Err)) := fun q541 => (bif q541 then some (.inr (.inr (⟨4, ((i36 : Nat) : Int)⟩ : GR10Err))) else (a0.Pages[i36]?).bind fun x549 => (bif decide (64 < x549.Init.size) then some (.inr (.inr (⟨5, ((i36 : Nat) : Int)⟩ : GR10Err))) else some (.inl (i36 + 1))))
noncomputable def g_r10_pages_L13 (a0 : GPlan) : Nat → Option (Nat ⊕ (Unit ⊕ GR10Err)) := fun i36 => (bif decide (i36 < a0.Pages.length) then (((a0.Pages[i36]?).bind fun x542 => (bif decide (x542.Rights < 0) then some true else (a0.Pages[i36]?).bind fun x544 => some (decide (7 < x544.Rights)))) : Option Bool).bind (fun p => (g_r10_pages_J12 a0 i36) p) else some (.inr (.inl ())))
noncomputable def g_r10_pages (a0 : GPlan) : Option GR10Err := (bif (decide (a0.Pages.length < 1) || decide (32 < a0.Pages.length)) then (g_r10_bad 11).bind fun r29 => some r29 else (iter (g_r10_pages_L13 a0) 0).bind (fun q => match q with | .inl _ => (g_r10_none).bind fun r553 => some r553 | .inr p => some p))
noncomputable def g_r10_procs_J6 (i36 : Nat) : Bool → Option (Nat ⊕ (Unit ⊕ GR10Err)) := fun q547 => (bif q547 then some (.inr (.inr (⟨4, ((i36 : Nat) : Int)⟩ : GR10Err))) else some (.inl (i36 + 1)))
noncomputable def g_r10_procs_L7 (a0 : GPlan) : Nat → Option (Nat ⊕ (Unit ⊕ GR10Err)) := fun i36 => (bif decide (i36 < a0.Procs.length) then (a0.Procs[i36]?).bind fun x40 => (((bif decide (x40.Entry < 0) then some true else (bif (!decide ((Int.tmod x40.Entry 4) = 0)) then some true else (bif decide ((IntKind.i64.wrap (64 * ((a0.Pages.length : Nat) : Int))) ≤ x40.Entry) then some true else (bif decide (x40.Prio < 0) then some true else some (decide (255 < x40.Prio))))))) : Option Bool).bind (fun p => (g_r10_procs_J6 i36) p) else some (.inr (.inl ())))
noncomputable def g_r10_procs (a0 : GPlan) : Option GR10Err := (bif (decide (a0.Procs.length < 1) || decide (8 < a0.Procs.length)) then (g_r10_bad 11).bind fun r29 => some r29 else (iter (g_r10_procs_L7 a0) 0).bind (fun q => match q with | .inl _ => (g_r10_none).bind fun r557 => some r557 | .inr p => some p))
noncomputable def g_r07_CheckPlan (a0 : GPortPlan) : Option Int := (bif (decide (a0.Kind < 1) || decide (4 < a0.Kind)) then some 7 else (bif (decide (a0.Size < 1) || decide (32 < a0.Size)) then some 11 else (bif ((decide (a0.Depth < 1) || decide (8 < a0.Depth)) || ((!(decide (3 ≤ a0.Kind))) && (!decide (a0.Depth = 1)))) then some 4 else (bif ((decide (a0.Refresh < 0) || decide (255 < a0.Refresh)) || ((!decide (a0.Kind = 1)) && (!decide (a0.Refresh = 0)))) then some 4 else some 0))))
noncomputable def g_r10_ports_L1 (a0 : GPlan) : Nat → Option (Nat ⊕ (Unit ⊕ GR10Err)) := fun i36 => (bif decide (i36 < a0.Ports.length) then (a0.Ports[i36]?).bind fun x40 => (g_r07_CheckPlan x40).bind fun r41 => (bif (!decide (r41 = 0)) then some (.inr (.inr (⟨r41, ((i36 : Nat) : Int)⟩ : GR10Err))) else some (.inl (i36 + 1))) else some (.inr (.inl ())))
noncomputable def g_r10_ports (a0 : GPlan) : Option GR10Err := (bif decide (8 < a0.Ports.length) then (g_r10_bad 11).bind fun r29 => some r29 else (iter (g_r10_ports_L1 a0) 0).bind (fun q => match q with | .inl _ => (g_r10_none).bind fun r48 => some r48 | .inr p => some p))
noncomputable def g_r10_things_J6 (i43 : Nat) : Bool → Option (Nat ⊕ (Unit ⊕ GR10Err)) := fun q548 => (bif q548 then some (.inr (.inr (⟨4, ((i43 : Nat) : Int)⟩ : GR10Err))) else some (.inl (i43 + 1)))
noncomputable def g_r10_things_L7 (a0 : GPlan) : Nat → Option (Nat ⊕ (Unit ⊕ GR10Err)) := fun i43 => (bif decide (i43 < a0.Sems.length) then (((a0.Sems[i43]?).bind fun x549 => (bif decide (x549 < 0) then some true else (a0.Sems[i43]?).bind fun x551 => some (decide (255 < x551)))) : Option Bool).bind (fun p => (g_r10_things_J6 i43) p) else some (.inr (.inl ())))
noncomputable def g_r10_things (a0 : GPlan) : Option GR10Err := (bif (decide (a0.Events < 0) || decide (8 < a0.Events)) then (g_r10_bad 4).bind fun r28 => some r28 else (bif decide (8 < a0.Sems.length) then (g_r10_bad 11).bind fun r36 => some r36 else (iter (g_r10_things_L7 a0) 0).bind (fun q => match q with | .inl _ => (g_r10_none).bind fun r556 => some r556 | .inr p => some p)))
noncomputable def g_r07_Most (a0 : GPortPlan) : Option (Int × Int) := (g_r07_CheckPlan a0).bind fun r24 => (bif (!decide (r24 = 0)) then some (0, 8) else (bif decide (a0.Kind = 1) then some ((IntKind.i64.wrap (3 + a0.Size)), 0) else (bif decide (a0.Kind = 3) then some ((IntKind.i64.wrap (2 + (IntKind.i64.wrap (a0.Depth * (IntKind.i64.wrap (1 + a0.Size)))))), 0) else some (2, 0))))
noncomputable def g_r10_bound_L1 (a0 : GPlan) : (Int × Nat) → Option ((Int × Nat) ⊕ Int) := fun (z28, i29) => (bif decide (i29 < a0.Ports.length) then (a0.Ports[i29]?).bind fun x34 => (g_r07_Most x34).bind fun r35 => some (.inl ((IntKind.i64.wrap (z28 + (IntKind.i64.wrap (3 + r35.1)))), i29 + 1)) else some (.inr z28))
noncomputable def g_r10_bound (a0 : GPlan) : Option Int := (iter (g_r10_bound_L1 a0) ((IntKind.i64.wrap ((IntKind.i64.wrap ((IntKind.i64.wrap ((IntKind.i64.wrap (58 + (IntKind.i64.wrap (76 * ((a0.Procs.length : Nat) : Int))))) + (IntKind.i64.wrap (68 * ((a0.Pages.length : Nat) : Int))))) + a0.Events)) + ((a0.Sems.length : Nat) : Int))), 0)).bind (fun z28 => some z28)
noncomputable def g_r10_Check_L1 (r37 : GR10Err) (r41 : GR10Err) (r45 : GR10Err) (r49 : GR10Err) : Nat → Option (Nat ⊕ (Unit ⊕ GR10Err)) := fun i58 => (bif decide (i58 < [r37, r41, r45, r49].length) then ([r37, r41, r45, r49][i58]?).bind fun x63 => (bif (!decide (x63.Code = 0)) then ([r37, r41, r45, r49][i58]?).bind fun x65 => some (.inr (.inr x65)) else some (.inl (i58 + 1))) else some (.inr (.inl ())))
noncomputable def g_r10_Check (a0 : GPlan) : Option GR10Err := (bif (decide (a0.Id < 0) || decide (2147483647 < a0.Id)) then (g_r10_bad 4).bind fun r28 => some r28 else (g_r10_pages a0).bind fun r37 => (g_r10_procs a0).bind fun r41 => (g_r10_ports a0).bind fun r45 => (g_r10_things a0).bind fun r49 => (iter (g_r10_Check_L1 r37 r41 r45 r49) 0).bind (fun q => match q with | .inl _ => (g_r10_bound a0).bind fun r68 => (bif decide (4096 < r68) then (g_r10_bad 11).bind fun r73 => some r73 else (g_r10_none).bind fun r79 => some r79) | .inr p => some p))
noncomputable def g_r10_Good (a0 : GPlan) : Option Bool := (g_r10_Check a0).bind fun r24 => some (decide (r24.Code = 0))
noncomputable def g_r14_none : Option GR14Err := some (⟨0, (-1)⟩ : GR14Err)
noncomputable def g_r14_parts_J6 (i61 : Nat) : Bool → Option (Nat ⊕ (Unit ⊕ GR14Err)) := fun q566 => (bif q566 then some (.inr (.inr (⟨4, ((i61 : Nat) : Int)⟩ : GR14Err))) else some (.inl (i61 + 1)))
noncomputable def g_r14_parts_L7 (a0 : GConfig) : Nat → Option (Nat ⊕ (Unit ⊕ GR14Err)) := fun i61 => (bif decide (i61 < a0.Homes.length) then (((a0.Homes[i61]?).bind fun x567 => (bif (!decide (x567 = 0)) then (a0.Homes[i61]?).bind fun x569 => some (!decide (x569 = 1)) else some false)) : Option Bool).bind (fun p => (g_r14_parts_J6 i61) p) else some (.inr (.inl ())))
noncomputable def g_r14_parts_L8 (a0 : GConfig) : Nat → Option (Nat ⊕ (Unit ⊕ GR14Err)) := fun i36 => (bif decide (i36 < a0.Parts.length) then (a0.Parts[i36]?).bind fun x40 => (g_r10_Good x40).bind fun r41 => (bif (!r41) then some (.inr (.inr (⟨8, ((i36 : Nat) : Int)⟩ : GR14Err))) else (a0.Parts[i36]?).bind fun x48 => (bif (!decide (x48.Id = ((i36 : Nat) : Int))) then some (.inr (.inr (⟨12, ((i36 : Nat) : Int)⟩ : GR14Err))) else some (.inl (i36 + 1)))) else some (.inr (.inl ())))
noncomputable def g_r14_parts (a0 : GConfig) : Option GR14Err := (bif (decide (a0.Parts.length < 1) || decide (8 < a0.Parts.length)) then (g_r14_bad 11).bind fun r29 => some r29 else (iter (g_r14_parts_L8 a0) 0).bind (fun q => match q with | .inl _ => (bif (!decide (a0.Homes.length = a0.Parts.length)) then (g_r14_bad 11).bind fun r54 => some r54 else (iter (g_r14_parts_L7 a0) 0).bind (fun q => match q with | .inl _ => (g_r14_none).bind fun r574 => some r574 | .inr p => some p)) | .inr p => some p))
noncomputable def g_r14_count_J4 (i26 : Nat) : Int → Option ((Int × Nat) ⊕ Int) := fun z533 => some (.inl (z533, i26 + 1))
noncomputable def g_r14_count_L5 (a0 : GConfig) (a1 : Int) : (Int × Nat) → Option ((Int × Nat) ⊕ Int) := fun (z27, i26) => (bif decide (i26 < a0.Windows.length) then (((a0.Windows[i26]?).bind fun x534 => (bif decide (x534.Part = a1) then some (IntKind.i64.wrap (z27 + 1)) else some z27)) : Option Int).bind (fun p => (g_r14_count_J4 i26) p) else some (.inr z27))
noncomputable def g_r14_count (a0 : GConfig) (a1 : Int) : Option Int := (iter (g_r14_count_L5 a0 a1) (0, 0)).bind (fun z27 => some z27)
noncomputable def g_r14_owner (a0 : GConfig) (a1 : Int) : Option Bool := some (decide ((-1) ≤ a1) && decide (a1 < ((a0.Parts.length : Nat) : Int)))
noncomputable def g_r14_windows_J4 (i36 : Nat) : Bool → Option (Nat ⊕ (Unit ⊕ GR14Err)) := fun q557 => (bif q557 then some (.inr (.inr (⟨14, ((i36 : Nat) : Int)⟩ : GR14Err))) else some (.inl (i36 + 1)))
noncomputable def g_r14_windows_L5 (a0 : GConfig) : Nat → Option (Nat ⊕ (Unit ⊕ GR14Err)) := fun i570 => (bif decide (i570 < a0.Parts.length) then (g_r14_count a0 ((i570 : Nat) : Int)).bind fun r575 => (bif decide (r575 = 0) then some (.inr (.inr (⟨17, ((i570 : Nat) : Int)⟩ : GR14Err))) else some (.inl (i570 + 1))) else some (.inr (.inl ())))
noncomputable def g_r14_windows_L6 (a0 : GConfig) : Nat → Option (Nat ⊕ (Unit ⊕ GR14Err)) := fun i36 => (bif decide (i36 < a0.Windows.length) then (a0.Windows[i36]?).bind fun x40 => (g_r14_owner a0 x40.Part).bind fun r46 => (bif (!r46) then some (.inr (.inr (⟨12, ((i36 : Nat) : Int)⟩ : GR14Err))) else (bif (((decide (x40.Start < 0) || decide (x40.Len < 1)) || decide (a0.Ticks ≤ x40.Start)) || decide ((IntKind.i64.wrap (a0.Ticks - x40.Start)) < x40.Len)) then some (.inr (.inr (⟨4, ((i36 : Nat) : Int)⟩ : GR14Err))) else (((bif decide (0 < i36) then (rdI a0.Windows (IntKind.i64.wrap (((i36 : Nat) : Int) - 1))).bind fun x559 => (rdI a0.Windows (IntKind.i64.wrap (((i36 : Nat) : Int) - 1))).bind fun x560 => some (decide (x40.Start < (IntKind.i64.wrap (x559.Start + x560.Len)))) else some false)) : Option Bool).bind (fun p => (g_r14_windows_J4 i36) p))) else some (.inr (.inl ())))
noncomputable def g_r14_windows (a0 : GConfig) : Option GR14Err := (bif decide (32 < a0.Windows.length) then (g_r14_bad 11).bind fun r29 => some r29 else (iter (g_r14_windows_L6 a0) 0).bind (fun q => match q with | .inl _ => (iter (g_r14_windows_L5 a0) 0).bind (fun q => match q with | .inl _ => (g_r14_none).bind fun r582 => some r582 | .inr p => some p) | .inr p => some p))
noncomputable def g_r14_kind (a0 : GConfig) (a1 : Int) (a2 : Int) : Option Int := (rdI a0.Parts a1).bind fun x25 => (bif (decide (a2 < 0) || decide (((x25.Ports.length : Nat) : Int) ≤ a2)) then some 0 else (rdI x25.Ports a2).bind fun x28 => some x28.Kind)
noncomputable def g_r14_links_J23 (a0 : GConfig) (i36 : Nat) (x40 : GLink) : Bool → Option (Nat ⊕ (Unit ⊕ GR14Err)) := fun q1065 => (bif q1065 then some (.inr (.inr (⟨8, ((i36 : Nat) : Int)⟩ : GR14Err))) else (g_r14_kind a0 x40.From x40.Out).bind fun r1074 => (g_r14_kind a0 x40.To x40.In).bind fun r1075 => (bif (((!decide (r1074 = 2)) && (!decide (r1074 = 4))) || ((!decide (r1075 = 1)) && (!decide (r1075 = 3)))) then some (.inr (.inr (⟨7, ((i36 : Nat) : Int)⟩ : GR14Err))) else some (.inl (i36 + 1))))
noncomputable def g_r14_links_J24 (a0 : GConfig) (i36 : Nat) (x40 : GLink) : Bool → Option (Nat ⊕ (Unit ⊕ GR14Err)) := fun q547 => (bif q547 then some (.inr (.inr (⟨12, ((i36 : Nat) : Int)⟩ : GR14Err))) else (((rdI a0.Parts x40.From).bind fun x1067 => (bif x1067.Mobile then some true else (rdI a0.Parts x40.To).bind fun x1069 => some x1069.Mobile)) : Option Bool).bind (fun p => (g_r14_links_J23 a0 i36 x40) p))
noncomputable def g_r14_links_L25 (a0 : GConfig) : Nat → Option (Nat ⊕ (Unit ⊕ GR14Err)) := fun i36 => (bif decide (i36 < a0.Links.length) then (a0.Links[i36]?).bind fun x40 => (((bif decide (x40.From < 0) then some true else (bif decide (x40.To < 0) then some true else (g_r14_owner a0 x40.From).bind fun r550 => (bif (!r550) then some true else (g_r14_owner a0 x40.To).bind fun r555 => (bif (!r555) then some true else some (decide (x40.From = x40.To))))))) : Option Bool).bind (fun p => (g_r14_links_J24 a0 i36 x40) p) else some (.inr (.inl ())))
noncomputable def g_r14_links (a0 : GConfig) : Option GR14Err := (bif decide (16 < a0.Links.length) then (g_r14_bad 11).bind fun r29 => some r29 else (iter (g_r14_links_L25 a0) 0).bind (fun q => match q with | .inl _ => (g_r14_none).bind fun r1081 => some r1081 | .inr p => some p))
noncomputable def g_r14_Check_J6 (i1067 : Nat) : Bool → Option (Nat ⊕ (Unit ⊕ GR14Err)) := fun q1573 => (bif q1573 then (g_r14_bad 17).bind fun r1582 => some (.inr (.inr r1582)) else some (.inl (i1067 + 1)))
noncomputable def g_r14_Check_L7 (a0 : GConfig) : Nat → Option (Nat ⊕ (Unit ⊕ GR14Err)) := fun i1067 => (bif decide (i1067 < a0.Parts.length) then (((a0.Parts[i1067]?).bind fun x1574 => (bif x1574.Mobile then (g_r14_count a0 (-1)).bind fun r1576 => some (decide (r1576 = 0)) else some false)) : Option Bool).bind (fun p => (g_r14_Check_J6 i1067) p) else some (.inr (.inl ())))
noncomputable def g_r14_Check_J8 (a0 : GConfig) : GR14Err → Option GR14Err := fun t1054 => (bif (!decide (t1054.Code = 0)) then some t1054 else (iter (g_r14_Check_L7 a0) 0).bind (fun q => match q with | .inl _ => (g_r14_none).bind fun r1588 => some r1588 | .inr p => some p))
noncomputable def g_r14_Check_J9 (a0 : GConfig) : GR14Err → Option GR14Err := fun t544 => (((bif decide (t544.Code = 0) then (g_r14_links a0).bind fun r1056 => some r1056 else some t544)) : Option GR14Err).bind (fun p => (g_r14_Check_J8 a0) p)
noncomputable def g_r14_Check (a0 : GConfig) : Option GR14Err := (bif (((decide (a0.Ticks < 1) || decide (10000 < a0.Ticks)) || decide (a0.Tries < 1)) || decide (64 < a0.Tries)) then (g_r14_bad 4).bind fun r28 => some r28 else (g_r14_parts a0).bind fun r34 => (((bif decide (r34.Code = 0) then (g_r14_windows a0).bind fun r546 => some r546 else some r34)) : Option GR14Err).bind (fun p => (g_r14_Check_J9 a0) p))
noncomputable def g_r14_Good (a0 : GConfig) : Option Bool := (g_r14_Check a0).bind fun r24 => some (decide (r24.Code = 0))
noncomputable def g_r14_Owners_J15 (i46 : Nat) : (List Int) → Option ((List Int × Nat) ⊕ (List Int)) := fun l552 => some (.inl (l552, i46 + 1))
noncomputable def g_r14_Owners_L16 (a0 : GConfig) (z35 : Int) : (List Int × Nat) → Option ((List Int × Nat) ⊕ (List Int)) := fun (l43, i46) => (bif decide (i46 < a0.Windows.length) then (((a0.Windows[i46]?).bind fun x555 => (bif (decide (x555.Start ≤ z35) && decide (z35 < (IntKind.i64.wrap (x555.Start + x555.Len)))) then (rdI l43 z35).bind fun x563 => some (l43.set z35.toNat x555.Part) else some l43)) : Option (List Int)).bind (fun p => (g_r14_Owners_J15 i46) p) else some (.inr l43))
noncomputable def g_r14_Owners_L17 (a0 : GConfig) : (List Int × Int) → Option ((List Int × Int) ⊕ (List Int)) := fun (l31, z35) => (bif decide (z35 < a0.Ticks) then (rdI l31 z35).bind fun x39 => (iter (g_r14_Owners_L16 a0 z35) ((l31.set z35.toNat (-2)), 0)).bind (fun l43 => some (.inl (l43, (IntKind.i64.wrap (z35 + 1))))) else some (.inr l31))
noncomputable def g_r14_Owners (a0 : GConfig) : Option (List Int) := chk (0 ≤ a0.Ticks) (chk (a0.Ticks.toNat * 8 ≤ 140737488355328) ((iter (g_r14_Owners_L17 a0) ((List.replicate a0.Ticks.toNat 0), 0)).bind (fun l31 => some l31)))
noncomputable def g_r14_ticks_J4 (i32 : Nat) : Int → Option ((Int × Nat) ⊕ Int) := fun z539 => some (.inl (z539, i32 + 1))
noncomputable def g_r14_ticks_L5 (a1 : Int) (r24 : List Int) : (Int × Nat) → Option ((Int × Nat) ⊕ Int) := fun (z33, i32) => (bif decide (i32 < r24.length) then (((r24[i32]?).bind fun x540 => (bif decide (x540 = a1) then some (IntKind.i64.wrap (z33 + 1)) else some z33)) : Option Int).bind (fun p => (g_r14_ticks_J4 i32) p) else some (.inr z33))
noncomputable def g_r14_ticks (a0 : GConfig) (a1 : Int) : Option Int := (g_r14_Owners a0).bind fun r24 => (iter (g_r14_ticks_L5 a1 r24) (0, 0)).bind (fun z33 => some z33)
noncomputable def g_r14_Idle (a0 : GConfig) : Option (Int × Int) := (g_r14_Good a0).bind fun r24 => (bif (!r24) then some (0, 8) else (g_r14_ticks a0 (-2)).bind fun r29 => some (r29, 0))
noncomputable def g_frame_Idle (a0 : GConfig) : Option (Int × ErrM) := (g_frame_Check a0).bind fun r24 => (bif (!decide (r24 = .nil)) then some (0, (.v gPlan)) else (g_frame_sum a0.Windows).bind fun r34 => some ((IntKind.i64.wrap (a0.Ticks - r34)), .nil))
noncomputable def g_r10_Copy (a0 : GPlan) : Option GPlan := chk ((([] : List GPagePlan).length + a0.Pages.length) * 24 ≤ 140737488355328) (chk ((([] : List GProcPlan).length + a0.Procs.length) * 24 ≤ 140737488355328) (chk ((([] : List GPortPlan).length + a0.Ports.length) * 32 ≤ 140737488355328) (chk ((([] : List Int).length + a0.Sems.length) * 8 ≤ 140737488355328) (some (⟨a0.Id, a0.Mobile, (([] : List GPagePlan) ++ a0.Pages), (([] : List GProcPlan) ++ a0.Procs), (([] : List GPortPlan) ++ a0.Ports), a0.Events, (([] : List Int) ++ a0.Sems)⟩ : GPlan)))))
noncomputable def g_r14_Copy_L1 (a0 : GConfig) : (List GPlan × Nat) → Option ((List GPlan × Nat) ⊕ (List GPlan)) := fun (l28, i31) => (bif decide (i31 < a0.Parts.length) then (a0.Parts[i31]?).bind fun x37 => (g_r10_Copy x37).bind fun r38 => chk ((l28.length + 1) * 120 ≤ 140737488355328) (some (.inl ((l28 ++ [r38]), i31 + 1))) else some (.inr l28))
noncomputable def g_r14_Copy (a0 : GConfig) : Option GConfig := (iter (g_r14_Copy_L1 a0) (([] : List GPlan), 0)).bind (fun l28 => chk ((([] : List Int).length + a0.Homes.length) * 8 ≤ 140737488355328) (chk ((([] : List GWindow).length + a0.Windows.length) * 24 ≤ 140737488355328) (chk ((([] : List GLink).length + a0.Links.length) * 32 ≤ 140737488355328) (some (⟨a0.Ticks, l28, (([] : List Int) ++ a0.Homes), (([] : List GWindow) ++ a0.Windows), (([] : List GLink) ++ a0.Links), a0.Tries⟩ : GConfig)))))
noncomputable def g_law14_same (a0 : ErrM) (a1 : Int) : Option Bool := (bif decide ((ErrM.code a0) = a1) then some (decide ((ErrM.place a0) = (-1))) else some false)
noncomputable def g_r14_Boots_J3 (i36 : Nat) : (List Int) → Option ((List Int × Nat) ⊕ (List Int)) := fun l543 => some (.inl (l543, i36 + 1))
noncomputable def g_r14_Boots_L4 (a0 : GConfig) (a1 : Int) : (List Int × Nat) → Option ((List Int × Nat) ⊕ (List Int)) := fun (l33, i36) => (bif decide (i36 < a0.Homes.length) then (((a0.Homes[i36]?).bind fun x546 => (bif decide (x546 = a1) then chk ((l33.length + [((i36 : Nat) : Int)].length) * 8 ≤ 140737488355328) (some (l33 ++ [((i36 : Nat) : Int)])) else some l33)) : Option (List Int)).bind (fun p => (g_r14_Boots_J3 i36) p) else some (.inr l33))
noncomputable def g_r14_Boots (a0 : GConfig) (a1 : Int) : Option (List Int × Int) := (g_r14_Good a0).bind fun r24 => (bif (!r24) then some (([] : List Int), 8) else (bif ((!decide (a1 = 0)) && (!decide (a1 = 1))) then some (([] : List Int), 12) else (iter (g_r14_Boots_L4 a0 a1) (([] : List Int), 0)).bind (fun l33 => some (l33, 0))))
noncomputable def g_r14_Windows_J3 (i40 : Nat) : (List GWindow) → Option ((List GWindow × Nat) ⊕ (List GWindow)) := fun l547 => some (.inl (l547, i40 + 1))
noncomputable def g_r14_Windows_L4 (a0 : GConfig) (a1 : Int) : (List GWindow × Nat) → Option ((List GWindow × Nat) ⊕ (List GWindow)) := fun (l37, i40) => (bif decide (i40 < a0.Windows.length) then (((a0.Windows[i40]?).bind fun x550 => (bif decide (x550.Part = a1) then (a0.Windows[i40]?).bind fun x552 => chk ((l37.length + [x552].length) * 24 ≤ 140737488355328) (some (l37 ++ [x552])) else some l37)) : Option (List GWindow)).bind (fun p => (g_r14_Windows_J3 i40) p) else some (.inr l37))
noncomputable def g_r14_Windows (a0 : GConfig) (a1 : Int) : Option (List GWindow × Int) := (g_r14_Good a0).bind fun r24 => (bif (!r24) then some (([] : List GWindow), 8) else (g_r14_owner a0 a1).bind fun r30 => (bif (!r30) then some (([] : List GWindow), 12) else (iter (g_r14_Windows_L4 a0 a1) (([] : List GWindow), 0)).bind (fun l37 => some (l37, 0))))
noncomputable def g_frame_Boots_J3 (i45 : Nat) : (List Int) → Option ((List Int × Nat) ⊕ (List Int)) := fun l551 => some (.inl (l551, i45 + 1))
noncomputable def g_frame_Boots_L4 (a0 : GConfig) (a1 : Int) : (List Int × Nat) → Option ((List Int × Nat) ⊕ (List Int)) := fun (l42, i45) => (bif decide (i45 < a0.Homes.length) then (((a0.Homes[i45]?).bind fun x554 => (bif decide (x554 = a1) then chk ((l42.length + [((i45 : Nat) : Int)].length) * 8 ≤ 140737488355328) (some (l42 ++ [((i45 : Nat) : Int)])) else some l42)) : Option (List Int)).bind (fun p => (g_frame_Boots_J3 i45) p) else some (.inr l42))
noncomputable def g_frame_Boots (a0 : GConfig) (a1 : Int) : Option (List Int × ErrM) := (g_frame_Check a0).bind fun r24 => (bif (!decide (r24 = .nil)) then some (([] : List Int), (.v gPlan)) else (bif ((!decide (a1 = 0)) && (!decide (a1 = 1))) then some (([] : List Int), (.v gArg)) else (iter (g_frame_Boots_L4 a0 a1) (([] : List Int), 0)).bind (fun l42 => some (l42, .nil))))
noncomputable def g_law14_sameInts_L1 (a0 : List Int) (a1 : List Int) : Nat → Option (Nat ⊕ (Unit ⊕ Bool)) := fun i25 => (bif decide (i25 < a0.length) then (a0[i25]?).bind fun x29 => (a1[i25]?).bind fun x30 => (bif (!decide (x29 = x30)) then some (.inr (.inr false)) else some (.inl (i25 + 1))) else some (.inr (.inl ())))
noncomputable def g_law14_sameInts (a0 : List Int) (a1 : List Int) : Option Bool := (bif (!decide (a0.length = a1.length)) then some false else (iter (g_law14_sameInts_L1 a0 a1) 0).bind (fun q => match q with | .inl _ => some true | .inr p => some p))
theorem eqInGWindow (x y : GWindow) : EqIn Tryz.prog 61 2 (.agg (eGWindow x).toArray) (.agg (eGWindow y).toArray) (decide (x = y)) := by
  have h := eqIn_struct (m := 1) st61 (eqFs_cons (part_one (cs := eGWindow x) (v := Value.int .i64 x.Part) ag3 rfl) (part_one (cs := eGWindow y) (v := Value.int .i64 y.Part) ag3 rfl) ((eqIn_int Tryz.underlying3).mono (by omega)) (eqFs_cons (part_one (cs := eGWindow x) (v := Value.int .i64 x.Start) ag3 rfl) (part_one (cs := eGWindow y) (v := Value.int .i64 y.Start) ag3 rfl) ((eqIn_int Tryz.underlying3).mono (by omega)) (eqFs_cons (part_one (cs := eGWindow x) (v := Value.int .i64 x.Len) ag3 rfl) (part_one (cs := eGWindow y) (v := Value.int .i64 y.Len) ag3 rfl) ((eqIn_int Tryz.underlying3).mono (by omega)) eqFs_nil)))
  have e : decide (x = y) = (decide (x.Part = y.Part) && (decide (x.Start = y.Start) && (decide (x.Len = y.Len) && true))) := by
    cases x; cases y; simp [Bool.decide_and]
  rw [e]; exact h
noncomputable def g_law14_sameWindows_L1 (a0 : List GWindow) (a1 : List GWindow) : Nat → Option (Nat ⊕ (Unit ⊕ Bool)) := fun i25 => (bif decide (i25 < a0.length) then (a0[i25]?).bind fun x29 => (a1[i25]?).bind fun x30 => (bif (!decide (x29 = x30)) then some (.inr (.inr false)) else some (.inl (i25 + 1))) else some (.inr (.inl ())))
noncomputable def g_law14_sameWindows (a0 : List GWindow) (a1 : List GWindow) : Option Bool := (bif (!decide (a0.length = a1.length)) then some false else (iter (g_law14_sameWindows_L1 a0 a1) 0).bind (fun q => match q with | .inl _ => some true | .inr p => some p))
noncomputable def g_r14_At (a0 : GConfig) (a1 : Int) : Option (Int × Int) := (g_r14_Good a0).bind fun r24 => (bif (!r24) then some (0, 8) else (bif (decide (a1 < 0) || decide (a0.Ticks ≤ a1)) then some (0, 12) else (g_r14_Owners a0).bind fun r30 => (rdI r30 a1).bind fun x37 => (bif decide (x37 = (-2)) then some (0, 17) else some (x37, 0))))
noncomputable def g_frame_At_L1 (a0 : GConfig) (a1 : Int) : Nat → Option (Nat ⊕ (Unit ⊕ (Int × ErrM))) := fun i40 => (bif decide (i40 < a0.Windows.length) then (a0.Windows[i40]?).bind fun x44 => (bif (decide (x44.Start ≤ a1) && decide (a1 < (IntKind.i64.wrap (x44.Start + x44.Len)))) then some (.inr (.inr (x44.Part, .nil))) else some (.inl (i40 + 1))) else some (.inr (.inl ())))
noncomputable def g_frame_At (a0 : GConfig) (a1 : Int) : Option (Int × ErrM) := (g_frame_Check a0).bind fun r24 => (bif (!decide (r24 = .nil)) then some (0, (.v gPlan)) else (bif (decide (a1 < 0) || decide (a0.Ticks ≤ a1)) then some (0, (.v gArg)) else (iter (g_frame_At_L1 a0 a1) 0).bind (fun q => match q with | .inl _ => some (0, (.v gNone)) | .inr p => some p)))
noncomputable def g_r14_Next_L2 (a0 : GConfig) (a1 : Int) (r539 : List Int) : Int → Option (Int ⊕ (Unit ⊕ (Int × Int))) := fun z546 => (bif decide (z546 < a0.Ticks) then (rdI r539 z546).bind fun x550 => (bif decide (x550 = a1) then some (.inr (.inr (z546, 0))) else some (.inl (IntKind.i64.wrap (z546 + 1)))) else some (.inr (.inl ())))
noncomputable def g_r14_Next_J3 (a0 : GConfig) (a1 : Int) (a2 : Int) : Bool → Option (Int × Int) := fun q530 => (bif q530 then some (0, 12) else (g_r14_Owners a0).bind fun r539 => (iter (g_r14_Next_L2 a0 a1 r539) a2).bind (fun q => match q with | .inl _ => some (0, 17) | .inr p => some p))
noncomputable def g_r14_Next (a0 : GConfig) (a1 : Int) (a2 : Int) : Option (Int × Int) := (g_r14_Good a0).bind fun r24 => (bif (!r24) then some (0, 8) else (((g_r14_owner a0 a1).bind fun r531 => (bif (!r531) then some true else (bif decide (a2 < 0) then some true else some (decide (a0.Ticks ≤ a2))))) : Option Bool).bind (fun p => (g_r14_Next_J3 a0 a1 a2) p))
noncomputable def g_r14_Load (a0 : GConfig) (a1 : Int) : Option (Int × Int) := (g_r14_Good a0).bind fun r24 => (bif (!r24) then some (0, 8) else (g_r14_owner a0 a1).bind fun r29 => (bif (!r29) then some (0, 12) else (g_r14_ticks a0 a1).bind fun r34 => some (r34, 0)))
noncomputable def g_r14_Joined_J7 (i539 : Nat) : Bool → Option (Nat ⊕ (Unit ⊕ (Bool × Int))) := fun q1045 => (bif q1045 then some (.inr (.inr (true, 0))) else some (.inl (i539 + 1)))
noncomputable def g_r14_Joined_L8 (a0 : GConfig) (a1 : Int) : Nat → Option (Nat ⊕ (Unit ⊕ (Bool × Int))) := fun i539 => (bif decide (i539 < a0.Links.length) then (((a0.Links[i539]?).bind fun x1046 => (bif decide (x1046.From = a1) then some true else (a0.Links[i539]?).bind fun x1048 => some (decide (x1048.To = a1)))) : Option Bool).bind (fun p => (g_r14_Joined_J7 i539) p) else some (.inr (.inl ())))
noncomputable def g_r14_Joined_J9 (a0 : GConfig) (a1 : Int) : Bool → Option (Bool × Int) := fun q530 => (bif q530 then some (false, 12) else (iter (g_r14_Joined_L8 a0 a1) 0).bind (fun q => match q with | .inl _ => some (false, 0) | .inr p => some p))
noncomputable def g_r14_Joined (a0 : GConfig) (a1 : Int) : Option (Bool × Int) := (g_r14_Good a0).bind fun r24 => (bif (!r24) then some (false, 8) else (((bif decide (a1 < 0) then some true else (g_r14_owner a0 a1).bind fun r532 => some (!r532))) : Option Bool).bind (fun p => (g_r14_Joined_J9 a0 a1) p))
noncomputable def g_slices_IndexFunc_Link_L1 (a0 : List GLink) (a1 : GLink → Option Bool) : Nat → Option (Nat ⊕ (Unit ⊕ Int)) := fun i23 => (bif decide (i23 < a0.length) then (a0[i23]?).bind fun x27 => (a1 x27).bind fun r28 => (bif r28 then some (.inr (.inr ((i23 : Nat) : Int))) else some (.inl (i23 + 1))) else some (.inr (.inl ())))
noncomputable def g_slices_IndexFunc_Link (a0 : List GLink) (a1 : GLink → Option Bool) : Option Int := (iter (g_slices_IndexFunc_Link_L1 a0 a1) 0).bind (fun q => match q with | .inl _ => some (-1) | .inr p => some p)
noncomputable def g_slices_ContainsFunc_Link (a0 : List GLink) (a1 : GLink → Option Bool) : Option Bool := (g_slices_IndexFunc_Link a0 a1).bind fun r21 => some (decide (0 ≤ r21))
noncomputable def g_frame_Joined_1 (a0 : GLink) (a1 : Int) : Option Bool := some (decide (a0.From = a1) || decide (a0.To = a1))
noncomputable def g_frame_Joined (a0 : GConfig) (a1 : Int) : Option (Bool × ErrM) := (g_frame_Check a0).bind fun r27 => (bif (!decide (r27 = .nil)) then some (false, (.v gPlan)) else (g_frame_there a0 a1).bind fun r37 => (bif (!r37) then some (false, (.v gArg)) else (g_slices_ContainsFunc_Link a0.Links (fun x0 => g_frame_Joined_1 x0 a1)).bind fun r45 => some (r45, .nil)))
noncomputable def g_law14_asks_J6 (a0 : GConfig) (a1 : Int) : Bool → Option Bool := fun q2687 => (bif q2687 then some false else (g_r14_Joined a0 a1).bind fun r2695 => (g_r14_Copy a0).bind fun r2699 => (g_frame_Joined r2699 a1).bind fun r2711 => (bif (r2711.1 == r2695.1) then (g_law14_same r2711.2 r2695.2).bind fun r2718 => some r2718 else some false))
noncomputable def g_law14_asks_J7 (a0 : GConfig) (a1 : Int) : Bool → Option Bool := fun q2156 => (bif q2156 then some false else (g_r14_Load a0 a1).bind fun r2164 => (g_r14_Copy a0).bind fun r2168 => (g_frame_Load r2168 a1).bind fun r2180 => (((bif (!decide (r2180.1 = r2164.1)) then some true else (g_law14_same r2180.2 r2164.2).bind fun r2689 => some (!r2689))) : Option Bool).bind (fun p => (g_law14_asks_J6 a0 a1) p))
noncomputable def g_law14_asks_J8 (a0 : GConfig) (a1 : Int) (a2 : Int) : Bool → Option Bool := fun q1625 => (bif q1625 then some false else (g_r14_Next a0 a1 a2).bind fun r1633 => (g_r14_Copy a0).bind fun r1637 => (g_frame_Next r1637 a1 a2).bind fun r1649 => (((bif (!decide (r1649.1 = r1633.1)) then some true else (g_law14_same r1649.2 r1633.2).bind fun r2158 => some (!r2158))) : Option Bool).bind (fun p => (g_law14_asks_J7 a0 a1) p))
noncomputable def g_law14_asks_J9 (a0 : GConfig) (a1 : Int) (a2 : Int) : Bool → Option Bool := fun q1090 => (bif q1090 then some false else (g_r14_At a0 a2).bind fun r1102 => (g_r14_Copy a0).bind fun r1106 => (g_frame_At r1106 a2).bind fun r1118 => (((bif (!decide (r1118.1 = r1102.1)) then some true else (g_law14_same r1118.2 r1102.2).bind fun r1627 => some (!r1627))) : Option Bool).bind (fun p => (g_law14_asks_J8 a0 a1 a2) p))
noncomputable def g_law14_asks_J10 (a0 : GConfig) (a1 : Int) (a2 : Int) : Bool → Option Bool := fun q551 => (bif q551 then some false else (g_r14_Boots a0 a1).bind fun r563 => (g_r14_Copy a0).bind fun r569 => (g_frame_Boots r569 a1).bind fun r581 => (((g_law14_sameInts r581.1 r563.1).bind fun r1091 => (bif (!r1091) then some true else (g_law14_same r581.2 r563.2).bind fun r1096 => some (!r1096))) : Option Bool).bind (fun p => (g_law14_asks_J9 a0 a1 a2) p))
noncomputable def g_law14_asks (a0 : GConfig) (a1 : Int) (a2 : Int) : Option Bool := (g_r14_Windows a0 a1).bind fun r24 => (g_r14_Copy a0).bind fun r30 => (g_frame_Windows r30 a1).bind fun r42 => (((g_law14_sameWindows r42.1 r24.1).bind fun r552 => (bif (!r552) then some true else (g_law14_same r42.2 r24.2).bind fun r557 => some (!r557))) : Option Bool).bind (fun p => (g_law14_asks_J10 a0 a1 a2) p)
structure GL14Case where
  C : GConfig
  D : GConfig
  Numbers : List Int
  Here : List Bool
  Emitted : List (List GMsg)
  deriving DecidableEq
def RGL14Case (w : World) (cs : List Value) (x : GL14Case) : Prop := ∃ v0 v1 v2 v3 v4 v5 v6 v7 v8 v9 v10, cs = [.int .i64 x.C.Ticks, v0, v1, v2, v3, .int .i64 x.C.Tries, .int .i64 x.D.Ticks, v4, v5, v6, v7, .int .i64 x.D.Tries, v8, v9, v10] ∧ SlR w 7 RGPlan v0 x.C.Parts ∧ SlR w 1 (Flat eI) v1 x.C.Homes ∧ SlR w 3 (Flat eGWindow) v2 x.C.Windows ∧ SlR w 4 (Flat eGLink) v3 x.C.Links ∧ SlR w 7 RGPlan v4 x.D.Parts ∧ SlR w 1 (Flat eI) v5 x.D.Homes ∧ SlR w 3 (Flat eGWindow) v6 x.D.Windows ∧ SlR w 4 (Flat eGLink) v7 x.D.Links ∧ SlR w 1 (Flat eI) v8 x.Numbers ∧ SlR w 1 (Flat eF) v9 x.Here ∧ SlR w 1 (RSl 2 eGMsg) v10 x.Emitted
theorem RGL14Case.mono : Mono RGL14Case := by
  intro w w' cs x e h
  obtain ⟨v0, v1, v2, v3, v4, v5, v6, v7, v8, v9, v10, rfl, h0, h1, h2, h3, h4, h5, h6, h7, h8, h9, h10⟩ := h
  exact ⟨v0, v1, v2, v3, v4, v5, v6, v7, v8, v9, v10, rfl, h0.agr RGPlan.mono e, h1.agr (Flat.mono _) e, h2.agr (Flat.mono _) e, h3.agr (Flat.mono _) e, h4.agr RGPlan.mono e, h5.agr (Flat.mono _) e, h6.agr (Flat.mono _) e, h7.agr (Flat.mono _) e, h8.agr (Flat.mono _) e, h9.agr (Flat.mono _) e, h10.agr (RSl.mono _ _) e⟩
noncomputable def g_law14_FrameAsks_L2 (a0 : GL14Case) : Int → Option (Int ⊕ (Unit ⊕ Bool)) := fun z562 => (bif decide ((IntKind.i64.wrap (z562 + 1)) < ((a0.Numbers.length : Nat) : Int)) then (rdI a0.Numbers z562).bind fun x566 => (rdI a0.Numbers (IntKind.i64.wrap (z562 + 1))).bind fun x567 => (g_law14_asks a0.C x566 x567).bind fun r568 => (bif (!r568) then some (.inr (.inr false)) else some (.inl (IntKind.i64.wrap (z562 + 1)))) else some (.inr (.inl ())))
noncomputable def g_law14_FrameAsks_J3 (a0 : GL14Case) : Bool → Option Bool := fun q552 => (bif q552 then some false else (iter (g_law14_FrameAsks_L2 a0) 0).bind (fun q => match q with | .inl _ => some true | .inr p => some p))
noncomputable def g_law14_FrameAsks (a0 : GL14Case) : Option Bool := (g_law14_fixed).bind fun r24 => (bif (!r24) then some false else (g_r14_Idle a0.C).bind fun r29 => (g_r14_Copy a0.C).bind fun r33 => (g_frame_Idle r33).bind fun r45 => (((bif (!decide (r29.1 = r45.1)) then some true else (g_law14_same r45.2 r29.2).bind fun r554 => some (!r554))) : Option Bool).bind (fun p => (g_law14_FrameAsks_J3 a0) p))
end Go.Proofs.YtjoihegnjjjdaaaGreatDoor
