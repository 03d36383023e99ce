/- Fy (written by wip/tools) -/
import Derived.Test.YtjoihegnjjjdaaaDoorErrW
import Derived.Test.YtjoihegnjjjdaaaDoorFast
set_option linter.unusedVariables false
set_option linter.unusedSimpArgs false
set_option maxRecDepth 10000
namespace Go.Proofs.YtjoihegnjjjdaaaDoor
open Go Go.RowKit
theorem ag9 : aggB Tryd.prog 9 = some false := by kernel_rfl
theorem st50 : structB Tryd.prog 50 = some [(3, 0), (9, 1)] := by kernel_rfl

abbrev gShort : Nat := 2
abbrev gRest : Nat := 4
abbrev gTag : Nat := 5
abbrev gRange : Nat := 6
abbrev gLength : Nat := 7
abbrev gSum : Nat := 3
abbrev gKind : Nat := 8
abbrev gPlan : Nat := 0
abbrev gState : Nat := 9
abbrev gBase : Nat := 10
abbrev gSize : Nat := 11
abbrev gArg : Nat := 1
abbrev gEnd : Nat := 14
abbrev gBusy : Nat := 15
abbrev gDown : Nat := 16
abbrev gLost : Nat := 17
abbrev gNone : Nat := 12
abbrev gText : Nat := 18
abbrev gStop : Nat := 19
abbrev gDivide : Nat := 20
abbrev erQ (A : Nat → Addr) (u : Value) (e : ErrM) : Rs := anyR fun w => IsE A w u e
section
variable {fp : Nat → Prop} {w0 w : World} {rs : List Rs} {A : Nat → Addr} {b g : Nat} {p : Int}
theorem St.dAt (hg : g ∈ gAll) (h : St fp w0 w (blkR b [.int .i64 p, sv 329 A g] 146 :: rs)) : St fp w0 w (erQ A (.iface 142 (.pointer (some ⟨b, 0, none⟩))) (.pl p g) :: rs) := h.blkAny (fun w' h => IsErr.mk hg h)
theorem St.dVar (hg : g ∈ gAll) (h : St fp w0 w rs) : St fp w0 w (erQ A (sv 329 A g) (.v g) :: rs) := h.trivAny fun w' => ⟨hg, rfl⟩
theorem St.dAtE {r e : ErrM} {u : Value} {w2 : World} (hI : IsE A w2 u e) (he : errAt p e = some r) (h : St fp w0 w (blkR b [.int .i64 p, u] 146 :: rs)) : St fp w0 w (erQ A (.iface 142 (.pointer (some ⟨b, 0, none⟩))) r :: rs) := by
  obtain ⟨g, rfl, rfl⟩ := errAt_some he
  obtain ⟨hg, rfl⟩ := hI
  exact h.dAt hg
theorem St.dNil (h : St fp w0 w rs) : St fp w0 w (erQ A .nilIface .nil :: rs) := h.trivAny fun w' => rfl
end
noncomputable def g_plan_at (a0 : Int) (a1 : ErrM) : Option ErrM := (errAt a0 a1).bind fun r24 => some r24
structure GPagePlan where
  Rights : Int
  Init : ByteArray
  deriving DecidableEq
def eGPagePlan (x : GPagePlan) : List Value := [.int .i64 x.Rights, .string x.Init]
theorem eGPagePlan_len (x : GPagePlan) : (eGPagePlan x).length = 2 := by simp [eGPagePlan]
theorem eGPagePlan_one (x : GPagePlan) : ∀ u ∈ eGPagePlan x, u.oneCell' = true := by
  intro u hu
  simp only [eGPagePlan, List.mem_append, List.mem_cons, List.mem_map, List.not_mem_nil, or_false] at hu
  rcases hu with rfl | rfl <;> rfl
structure GProcPlan where
  Entry : Int
  Prio : Int
  Auto : Bool
  deriving DecidableEq
def eGProcPlan (x : GProcPlan) : List Value := [.int .i64 x.Entry, .int .i64 x.Prio, .bool x.Auto]
theorem eGProcPlan_len (x : GProcPlan) : (eGProcPlan x).length = 3 := by simp [eGProcPlan]
theorem eGProcPlan_one (x : GProcPlan) : ∀ u ∈ eGProcPlan x, u.oneCell' = true := by
  intro u hu
  simp only [eGProcPlan, List.mem_append, List.mem_cons, List.mem_map, List.not_mem_nil, or_false] at hu
  rcases hu with rfl | rfl | rfl <;> rfl
structure GPortPlan where
  Kind : Int
  Size : Int
  Depth : Int
  Refresh : Int
  deriving DecidableEq
def eGPortPlan (x : GPortPlan) : List Value := [.int .i64 x.Kind, .int .i64 x.Size, .int .i64 x.Depth, .int .i64 x.Refresh]
theorem eGPortPlan_len (x : GPortPlan) : (eGPortPlan x).length = 4 := by simp [eGPortPlan]
theorem eGPortPlan_one (x : GPortPlan) : ∀ u ∈ eGPortPlan x, u.oneCell' = true := by
  intro u hu
  simp only [eGPortPlan, List.mem_append, List.mem_cons, List.mem_map, List.not_mem_nil, or_false] at hu
  rcases hu with rfl | rfl | rfl | rfl <;> rfl
structure GPlan where
  Id : Int
  Mobile : Bool
  Pages : List GPagePlan
  Procs : List GProcPlan
  Ports : List GPortPlan
  Events : Int
  Sems : List Int
  deriving DecidableEq
def RGPlan (w : World) (cs : List Value) (x : GPlan) : Prop := ∃ v0 v1 v2 v3, cs = [.int .i64 x.Id, .bool x.Mobile, v0, v1, v2, .int .i64 x.Events, v3] ∧ SlR w 2 (Flat eGPagePlan) v0 x.Pages ∧ SlR w 3 (Flat eGProcPlan) v1 x.Procs ∧ SlR w 4 (Flat eGPortPlan) v2 x.Ports ∧ SlR w 1 (Flat eI) v3 x.Sems
theorem RGPlan.mono : Mono RGPlan := by
  intro w w' cs x e h
  obtain ⟨v0, v1, v2, v3, rfl, h0, h1, h2, h3⟩ := h
  exact ⟨v0, v1, v2, v3, rfl, h0.agr (Flat.mono _) e, h1.agr (Flat.mono _) e, h2.agr (Flat.mono _) e, h3.agr (Flat.mono _) e⟩
noncomputable def g_plan_checkPages_L1 (a0 : GPlan) : Nat → Option (Nat ⊕ (Unit ⊕ ErrM)) := fun i28 => (bif decide (i28 < a0.Pages.length) then (a0.Pages[i28]?).bind fun x32 => (bif (decide (x32.Rights < 0) || decide (7 < x32.Rights)) then (g_plan_at ((i28 : Nat) : Int) (.v gRange)).bind fun r39 => some (.inr (.inr r39)) else (bif decide (64 < x32.Init.size) then (g_plan_at ((i28 : Nat) : Int) (.v gLength)).bind fun r46 => some (.inr (.inr r46)) else some (.inl (i28 + 1)))) else some (.inr (.inl ())))
noncomputable def g_plan_checkPages (a0 : GPlan) : Option ErrM := (bif (decide (a0.Pages.length < 1) || decide (32 < a0.Pages.length)) then some (.v gSize) else (iter (g_plan_checkPages_L1 a0) 0).bind (fun q => match q with | .inl _ => some .nil | .inr p => some p))
noncomputable def g_plan_checkProcs_J6 (i28 : Nat) : Bool → Option (Nat ⊕ (Unit ⊕ ErrM)) := fun q539 => (bif q539 then (g_plan_at ((i28 : Nat) : Int) (.v gRange)).bind fun r547 => some (.inr (.inr r547)) else some (.inl (i28 + 1)))
noncomputable def g_plan_checkProcs_L7 (a0 : GPlan) : Nat → Option (Nat ⊕ (Unit ⊕ ErrM)) := fun i28 => (bif decide (i28 < a0.Procs.length) then (a0.Procs[i28]?).bind fun x32 => (((bif decide (x32.Entry < 0) then some true else (bif decide ((IntKind.i64.wrap (64 * ((a0.Pages.length : Nat) : Int))) ≤ x32.Entry) then some true else (bif (!decide ((Int.tmod x32.Entry 4) = 0)) then some true else (bif decide (x32.Prio < 0) then some true else some (decide (255 < x32.Prio))))))) : Option Bool).bind (fun p => (g_plan_checkProcs_J6 i28) p) else some (.inr (.inl ())))
noncomputable def g_plan_checkProcs (a0 : GPlan) : Option ErrM := (bif (decide (a0.Procs.length < 1) || decide (8 < a0.Procs.length)) then some (.v gSize) else (iter (g_plan_checkProcs_L7 a0) 0).bind (fun q => match q with | .inl _ => some .nil | .inr p => some p))
noncomputable def g_port_isQueue (a0 : GPortPlan) : Option Bool := some (decide (a0.Kind = 3) || decide (a0.Kind = 4))
noncomputable def g_port_isIn (a0 : GPortPlan) : Option Bool := some (decide (a0.Kind = 1) || decide (a0.Kind = 3))
noncomputable def g_port_isOut (a0 : GPortPlan) : Option Bool := some (decide (a0.Kind = 2) || decide (a0.Kind = 4))
noncomputable def g_port_CheckPlan_J1 (a0 : GPortPlan) (i525 : Nat) (i1033 : Nat) : Bool → Option ErrM := fun q1537 => (bif q1537 then some (.v gKind) else (bif (decide (a0.Size < 1) || decide (32 < a0.Size)) then some (.v gSize) else (bif (((decide (a0.Depth < 1) || decide (((i525 : Nat) : Int) < a0.Depth)) || decide (a0.Refresh < 0)) || decide (((i1033 : Nat) : Int) < a0.Refresh)) then some (.v gRange) else some .nil)))
noncomputable def g_port_CheckPlan_J2 (a0 : GPortPlan) (i525 : Nat) : Nat → Option ErrM := fun i1033 => (((g_port_isIn a0).bind fun r1538 => (bif (!r1538) then (g_port_isOut a0).bind fun r1543 => some (!r1543) else some false)) : Option Bool).bind (fun p => (g_port_CheckPlan_J1 a0 i525 i1033) p)
noncomputable def g_port_CheckPlan_J3 (a0 : GPortPlan) : Nat → Option ErrM := fun i525 => (((bif decide (a0.Kind = 1) then some 255 else some 0)) : Option Nat).bind (fun p => (g_port_CheckPlan_J2 a0 i525) p)
noncomputable def g_port_CheckPlan (a0 : GPortPlan) : Option ErrM := (((g_port_isQueue a0).bind fun r526 => (bif r526 then some 8 else some 1)) : Option Nat).bind (fun p => (g_port_CheckPlan_J3 a0) p)
noncomputable def g_port_Most (a0 : GPortPlan) : Option (Int × ErrM) := (g_port_CheckPlan a0).bind fun r24 => (bif (!decide (r24 = .nil)) then some (0, (.v gPlan)) else (g_port_isOut a0).bind fun r34 => (bif r34 then some (2, .nil) else some ((IntKind.i64.wrap (2 + (IntKind.i64.wrap (a0.Depth * (IntKind.i64.wrap (1 + a0.Size)))))), .nil)))
noncomputable def g_plan_bound_L1 (a0 : GPlan) : (Int × Nat) → Option ((Int × Nat) ⊕ Int) := fun (z29, i30) => (bif decide (i30 < a0.Ports.length) then (a0.Ports[i30]?).bind fun x34 => (g_port_Most x34).bind fun r40 => some (.inl ((IntKind.i64.wrap (z29 + (IntKind.i64.wrap (3 + r40.1)))), i30 + 1)) else some (.inr z29))
noncomputable def g_plan_bound (a0 : GPlan) : Option Int := (iter (g_plan_bound_L1 a0) ((IntKind.i64.wrap ((IntKind.i64.wrap ((IntKind.i64.wrap ((IntKind.i64.wrap (58 + (IntKind.i64.wrap (76 * ((a0.Procs.length : Nat) : Int))))) + (IntKind.i64.wrap (68 * ((a0.Pages.length : Nat) : Int))))) + a0.Events)) + ((a0.Sems.length : Nat) : Int))), 0)).bind (fun z29 => some z29)
noncomputable def g_plan_checkRest_L1 (a0 : GPlan) : Nat → Option (Nat ⊕ (Unit ⊕ ErrM)) := fun i57 => (bif decide (i57 < a0.Sems.length) then (a0.Sems[i57]?).bind fun x61 => (bif (decide (x61 < 0) || decide (255 < x61)) then (g_plan_at ((i57 : Nat) : Int) (.v gRange)).bind fun r63 => some (.inr (.inr r63)) else some (.inl (i57 + 1))) else some (.inr (.inl ())))
noncomputable def g_plan_checkRest_L2 (a0 : GPlan) : Nat → Option (Nat ⊕ (Unit ⊕ ErrM)) := fun i28 => (bif decide (i28 < a0.Ports.length) then (a0.Ports[i28]?).bind fun x32 => (g_port_CheckPlan x32).bind fun r38 => (bif (!decide (r38 = .nil)) then (g_plan_at ((i28 : Nat) : Int) r38).bind fun r45 => some (.inr (.inr r45)) else some (.inl (i28 + 1))) else some (.inr (.inl ())))
noncomputable def g_plan_checkRest (a0 : GPlan) : Option ErrM := (bif decide (8 < a0.Ports.length) then some (.v gSize) else (iter (g_plan_checkRest_L2 a0) 0).bind (fun q => match q with | .inl _ => (bif (decide (a0.Events < 0) || decide (8 < a0.Events)) then some (.v gRange) else (bif decide (8 < a0.Sems.length) then some (.v gSize) else (iter (g_plan_checkRest_L1 a0) 0).bind (fun q => match q with | .inl _ => (g_plan_bound a0).bind fun r69 => (bif decide (4096 < r69) then some (.v gSize) else some .nil) | .inr p => some p))) | .inr p => some p))
noncomputable def g_plan_Check (a0 : GPlan) : Option ErrM := (bif (decide (a0.Id < 0) || decide (2147483647 < a0.Id)) then some (.v gRange) else (g_plan_checkPages a0).bind fun r30 => (bif (!decide (r30 = .nil)) then some r30 else (g_plan_checkProcs a0).bind fun r38 => (bif (!decide (r38 = .nil)) then some r38 else (g_plan_checkRest a0).bind fun r46 => (bif (!decide (r46 = .nil)) then some r46 else some .nil))))
noncomputable def g_frame_at (a0 : Int) (a1 : ErrM) : Option ErrM := (errAt a0 a1).bind fun r24 => some r24
structure GWindow where
  Part : Int
  Start : Int
  Len : Int
  deriving DecidableEq
def eGWindow (x : GWindow) : List Value := [.int .i64 x.Part, .int .i64 x.Start, .int .i64 x.Len]
theorem eGWindow_len (x : GWindow) : (eGWindow x).length = 3 := by simp [eGWindow]
theorem eGWindow_one (x : GWindow) : ∀ u ∈ eGWindow x, u.oneCell' = true := by
  intro u hu
  simp only [eGWindow, List.mem_append, List.mem_cons, List.mem_map, List.not_mem_nil, or_false] at hu
  rcases hu with rfl | rfl | rfl <;> rfl
structure GLink where
  From : Int
  Out : Int
  To : Int
  In : Int
  deriving DecidableEq
def eGLink (x : GLink) : List Value := [.int .i64 x.From, .int .i64 x.Out, .int .i64 x.To, .int .i64 x.In]
theorem eGLink_len (x : GLink) : (eGLink x).length = 4 := by simp [eGLink]
theorem eGLink_one (x : GLink) : ∀ u ∈ eGLink x, u.oneCell' = true := by
  intro u hu
  simp only [eGLink, List.mem_append, List.mem_cons, List.mem_map, List.not_mem_nil, or_false] at hu
  rcases hu with rfl | rfl | rfl | rfl <;> rfl
structure GConfig where
  Ticks : Int
  Parts : List GPlan
  Homes : List Int
  Windows : List GWindow
  Links : List GLink
  Tries : Int
  deriving DecidableEq
def RGConfig (w : World) (cs : List Value) (x : GConfig) : Prop := ∃ v0 v1 v2 v3, cs = [.int .i64 x.Ticks, v0, v1, v2, v3, .int .i64 x.Tries] ∧ SlR w 7 RGPlan v0 x.Parts ∧ SlR w 1 (Flat eI) v1 x.Homes ∧ SlR w 3 (Flat eGWindow) v2 x.Windows ∧ SlR w 4 (Flat eGLink) v3 x.Links
theorem RGConfig.mono : Mono RGConfig := by
  intro w w' cs x e h
  obtain ⟨v0, v1, v2, v3, rfl, h0, h1, h2, h3⟩ := h
  exact ⟨v0, v1, v2, v3, rfl, h0.agr RGPlan.mono e, h1.agr (Flat.mono _) e, h2.agr (Flat.mono _) e, h3.agr (Flat.mono _) e⟩
noncomputable def g_frame_checkParts_L1 (a0 : GConfig) : Nat → Option (Nat ⊕ (Unit ⊕ ErrM)) := fun i64 => (bif decide (i64 < a0.Homes.length) then (a0.Homes[i64]?).bind fun x68 => (bif ((!decide (x68 = 0)) && (!decide (x68 = 1))) then (g_frame_at ((i64 : Nat) : Int) (.v gRange)).bind fun r70 => some (.inr (.inr r70)) else some (.inl (i64 + 1))) else some (.inr (.inl ())))
noncomputable def g_frame_checkParts_L2 (a0 : GConfig) : Nat → Option (Nat ⊕ (Unit ⊕ ErrM)) := fun i30 => (bif decide (i30 < a0.Parts.length) then (a0.Parts[i30]?).bind fun x34 => (g_plan_Check x34).bind fun r40 => (bif (!decide (r40 = .nil)) then (g_frame_at ((i30 : Nat) : Int) (.v gPlan)).bind fun r47 => some (.inr (.inr r47)) else (bif (!decide (x34.Id = ((i30 : Nat) : Int))) then (g_frame_at ((i30 : Nat) : Int) (.v gArg)).bind fun r54 => some (.inr (.inr r54)) else some (.inl (i30 + 1)))) else some (.inr (.inl ())))
noncomputable def g_frame_checkParts (a0 : GConfig) : Option ErrM := (bif (((decide (a0.Ticks < 1) || decide (10000 < a0.Ticks)) || decide (a0.Tries < 1)) || decide (64 < a0.Tries)) then some (.v gRange) else (bif (decide (a0.Parts.length < 1) || decide (8 < a0.Parts.length)) then some (.v gSize) else (iter (g_frame_checkParts_L2 a0) 0).bind (fun q => match q with | .inl _ => (bif (!decide (a0.Homes.length = a0.Parts.length)) then some (.v gSize) else (iter (g_frame_checkParts_L1 a0) 0).bind (fun q => match q with | .inl _ => some .nil | .inr p => some p)) | .inr p => some p)))
noncomputable def g_frame_there (a0 : GConfig) (a1 : Int) : Option Bool := some (decide (0 ≤ a1) && decide (a1 < ((a0.Parts.length : Nat) : Int)))
noncomputable def g_frame_owner (a0 : GConfig) (a1 : Int) : Option Bool := (bif decide (a1 = (-1)) then some true else (g_frame_there a0 a1).bind fun r25 => some r25)
noncomputable def g_slices_IndexFunc_Window_L1 (a0 : List GWindow) (a1 : GWindow → Option Bool) : Nat → Option (Nat ⊕ (Unit ⊕ Int)) := fun i23 => (bif decide (i23 < a0.length) then (a0[i23]?).bind fun x27 => (a1 x27).bind fun r28 => (bif r28 then some (.inr (.inr ((i23 : Nat) : Int))) else some (.inl (i23 + 1))) else some (.inr (.inl ())))
noncomputable def g_slices_IndexFunc_Window (a0 : List GWindow) (a1 : GWindow → Option Bool) : Option Int := (iter (g_slices_IndexFunc_Window_L1 a0 a1) 0).bind (fun q => match q with | .inl _ => some (-1) | .inr p => some p)
noncomputable def g_slices_ContainsFunc_Window (a0 : List GWindow) (a1 : GWindow → Option Bool) : Option Bool := (g_slices_IndexFunc_Window a0 a1).bind fun r21 => some (decide (0 ≤ r21))
noncomputable def g_frame_has_1 (a0 : GWindow) (a1 : Int) : Option Bool := some (decide (a0.Part = a1))
noncomputable def g_frame_has (a0 : GConfig) (a1 : Int) : Option Bool := (g_slices_ContainsFunc_Window a0.Windows (fun x0 => g_frame_has_1 x0 a1)).bind fun r27 => some r27
noncomputable def g_frame_checkWindows_L1 (a0 : GConfig) : Nat → Option (Nat ⊕ (Unit ⊕ ErrM)) := fun i67 => (bif decide (i67 < a0.Parts.length) then (g_frame_has a0 ((i67 : Nat) : Int)).bind fun r71 => (bif (!r71) then (g_frame_at ((i67 : Nat) : Int) (.v gNone)).bind fun r76 => some (.inr (.inr r76)) else some (.inl (i67 + 1))) else some (.inr (.inl ())))
noncomputable def g_frame_checkWindows_L2 (a0 : GConfig) : (Int × Nat) → Option ((Int × Nat) ⊕ (Unit ⊕ ErrM)) := fun (z30, i29) => (bif decide (i29 < a0.Windows.length) then (a0.Windows[i29]?).bind fun x34 => (g_frame_owner a0 x34.Part).bind fun r40 => (bif (!r40) then (g_frame_at ((i29 : Nat) : Int) (.v gArg)).bind fun r45 => some (.inr (.inr r45)) else (bif (((decide (x34.Start < 0) || decide (x34.Len < 1)) || decide (a0.Ticks ≤ x34.Start)) || decide ((IntKind.i64.wrap (a0.Ticks - x34.Start)) < x34.Len)) then (g_frame_at ((i29 : Nat) : Int) (.v gRange)).bind fun r52 => some (.inr (.inr r52)) else (bif decide (x34.Start < z30) then (g_frame_at ((i29 : Nat) : Int) (.v gBusy)).bind fun r59 => some (.inr (.inr r59)) else some (.inl ((IntKind.i64.wrap (x34.Start + x34.Len)), i29 + 1))))) else some (.inr (.inl ())))
noncomputable def g_frame_checkWindows (a0 : GConfig) : Option ErrM := (bif decide (32 < a0.Windows.length) then some (.v gSize) else (iter (g_frame_checkWindows_L2 a0) (0, 0)).bind (fun q => match q with | .inl _ => (iter (g_frame_checkWindows_L1 a0) 0).bind (fun q => match q with | .inl _ => some .nil | .inr p => some p) | .inr p => some p))
noncomputable def g_frame_isPort (a0 : GPlan) (a1 : Int) (a2 : Int) (a3 : Int) : Option Bool := (bif decide (0 ≤ a1) then (bif decide (a1 < ((a0.Ports.length : Nat) : Int)) then (rdI a0.Ports a1).bind fun x27 => (bif decide (x27.Kind = a2) then some true else (rdI a0.Ports a1).bind fun x29 => some (decide (x29.Kind = a3))) else some false) else some false)
noncomputable def g_slices_IndexFunc_Plan_L1 (a0 : List GPlan) (a1 : GPlan → Option Bool) : Nat → Option (Nat ⊕ (Unit ⊕ Int)) := fun i23 => (bif decide (i23 < a0.length) then (a0[i23]?).bind fun x27 => (a1 x27).bind fun r28 => (bif r28 then some (.inr (.inr ((i23 : Nat) : Int))) else some (.inl (i23 + 1))) else some (.inr (.inl ())))
noncomputable def g_slices_IndexFunc_Plan (a0 : List GPlan) (a1 : GPlan → Option Bool) : Option Int := (iter (g_slices_IndexFunc_Plan_L1 a0 a1) 0).bind (fun q => match q with | .inl _ => some (-1) | .inr p => some p)
noncomputable def g_slices_ContainsFunc_Plan (a0 : List GPlan) (a1 : GPlan → Option Bool) : Option Bool := (g_slices_IndexFunc_Plan a0 a1).bind fun r21 => some (decide (0 ≤ r21))
noncomputable def g_frame_checkLinks_1 (a0 : GPlan) : Option Bool := some a0.Mobile
noncomputable def g_frame_checkLinks_J16 (i28 : Nat) : Bool → Option (Nat ⊕ (Unit ⊕ ErrM)) := fun q1573 => (bif q1573 then (g_frame_at ((i28 : Nat) : Int) (.v gKind)).bind fun r1586 => some (.inr (.inr r1586)) else some (.inl (i28 + 1)))
noncomputable def g_frame_checkLinks_J17 (a0 : GConfig) (i28 : Nat) (x32 : GLink) : Bool → Option (Nat ⊕ (Unit ⊕ ErrM)) := fun q1059 => (bif q1059 then (g_frame_at ((i28 : Nat) : Int) (.v gPlan)).bind fun r1066 => some (.inr (.inr r1066)) else (((rdI a0.Parts x32.From).bind fun x1575 => (g_frame_isPort x1575 x32.Out 2 4).bind fun r1576 => (bif (!r1576) then some true else (rdI a0.Parts x32.To).bind fun x1580 => (g_frame_isPort x1580 x32.In 1 3).bind fun r1581 => some (!r1581))) : Option Bool).bind (fun p => (g_frame_checkLinks_J16 i28) p))
noncomputable def g_frame_checkLinks_J18 (a0 : GConfig) (i28 : Nat) (x32 : GLink) : Bool → Option (Nat ⊕ (Unit ⊕ ErrM)) := fun q539 => (bif q539 then (g_frame_at ((i28 : Nat) : Int) (.v gArg)).bind fun r552 => some (.inr (.inr r552)) else (((rdI a0.Parts x32.From).bind fun x1061 => (bif x1061.Mobile then some true else (rdI a0.Parts x32.To).bind fun x1063 => some x1063.Mobile)) : Option Bool).bind (fun p => (g_frame_checkLinks_J17 a0 i28 x32) p))
noncomputable def g_frame_checkLinks_J19 : Bool → Option ErrM := fun q2097 => (bif q2097 then some (.v gNone) else some .nil)
noncomputable def g_frame_checkLinks_L20 (a0 : GConfig) : Nat → Option (Nat ⊕ (Unit ⊕ ErrM)) := fun i28 => (bif decide (i28 < a0.Links.length) then (a0.Links[i28]?).bind fun x32 => (((g_frame_there a0 x32.From).bind fun r540 => (bif (!r540) then some true else (g_frame_there a0 x32.To).bind fun r545 => (bif (!r545) then some true else some (decide (x32.From = x32.To))))) : Option Bool).bind (fun p => (g_frame_checkLinks_J18 a0 i28 x32) p) else some (.inr (.inl ())))
noncomputable def g_frame_checkLinks (a0 : GConfig) : Option ErrM := (bif decide (16 < a0.Links.length) then some (.v gSize) else (iter (g_frame_checkLinks_L20 a0) 0).bind (fun q => match q with | .inl _ => (g_slices_ContainsFunc_Plan a0.Parts (fun x0 => g_frame_checkLinks_1 x0)).bind fun r1592 => (((bif r1592 then (g_frame_has a0 (-1)).bind fun r2099 => some (!r2099) else some false)) : Option Bool).bind (fun p => g_frame_checkLinks_J19 p) | .inr p => some p))
noncomputable def g_frame_Check (a0 : GConfig) : Option ErrM := (g_frame_checkParts a0).bind fun r28 => (bif (!decide (r28 = .nil)) then some r28 else (g_frame_checkWindows a0).bind fun r36 => (bif (!decide (r36 = .nil)) then some r36 else (g_frame_checkLinks a0).bind fun r44 => (bif (!decide (r44 = .nil)) then some r44 else some .nil)))
structure GMsg where
  Port : Int
  Data : ByteArray
  deriving DecidableEq
def eGMsg (x : GMsg) : List Value := [.int .i64 x.Port, .string x.Data]
theorem eGMsg_len (x : GMsg) : (eGMsg x).length = 2 := by simp [eGMsg]
theorem eGMsg_one (x : GMsg) : ∀ u ∈ eGMsg x, u.oneCell' = true := by
  intro u hu
  simp only [eGMsg, List.mem_append, List.mem_cons, List.mem_map, List.not_mem_nil, or_false] at hu
  rcases hu with rfl | rfl <;> rfl
noncomputable def g_frame_Carry_J54 (i1080 : Nat) : (List (List GMsg)) → Option ((List (List GMsg) × Nat) ⊕ (List (List GMsg))) := fun l1585 => some (.inl (l1585, i1080 + 1))
noncomputable def g_frame_Carry_L55 (x561 : GLink) (x1074 : List GMsg) : (List (List GMsg) × Nat) → Option ((List (List GMsg) × Nat) ⊕ (List (List GMsg))) := fun (l1077, i1080) => (bif decide (i1080 < x1074.length) then (((x1074[i1080]?).bind fun x1588 => (bif decide (x1588.Port = x561.Out) then (rdI l1077 x561.To).bind fun x1599 => chk ((x1599.length + [(⟨x561.In, x1588.Data⟩ : GMsg)].length) * 24 ≤ 140737488355328) (some (l1077.set x561.To.toNat (x1599 ++ [(⟨x561.In, x1588.Data⟩ : GMsg)]))) else some l1077)) : Option (List (List GMsg))).bind (fun p => (g_frame_Carry_J54 i1080) p) else some (.inr l1077))
noncomputable def g_frame_Carry_J56 (a2 : List (List GMsg)) (l50 : List (List GMsg)) (x561 : GLink) : Bool → Option (List (List GMsg)) := fun q1068 => (bif q1068 then some l50 else (rdI a2 x561.From).bind fun x1074 => (iter (g_frame_Carry_L55 x561 x1074) (l50, 0)).bind (fun l1077 => some l1077))
noncomputable def g_frame_Carry_J57 (i53 : Nat) : (List (List GMsg)) → Option ((List (List GMsg) × Nat) ⊕ (List (List GMsg))) := fun l558 => some (.inl (l558, i53 + 1))
noncomputable def g_frame_Carry_L58 (a0 : GConfig) (a1 : List Bool) (a2 : List (List GMsg)) : (List (List GMsg) × Nat) → Option ((List (List GMsg) × Nat) ⊕ (List (List GMsg))) := fun (l50, i53) => (bif decide (i53 < a0.Links.length) then (((a0.Links[i53]?).bind fun x561 => (((rdI a1 x561.From).bind fun x1069 => (bif (!x1069) then some true else (rdI a1 x561.To).bind fun x1071 => some (!x1071))) : Option Bool).bind (fun p => (g_frame_Carry_J56 a2 l50 x561) p)) : Option (List (List GMsg))).bind (fun p => (g_frame_Carry_J57 i53) p) else some (.inr l50))
noncomputable def g_frame_Carry (a0 : GConfig) (a1 : List Bool) (a2 : List (List GMsg)) : Option (List (List GMsg) × ErrM) := (g_frame_Check a0).bind fun r24 => (bif (!decide (r24 = .nil)) then some (([] : List (List GMsg)), (.v gPlan)) else (bif ((!decide (a1.length = a0.Parts.length)) || (!decide (a2.length = a0.Parts.length))) then some (([] : List (List GMsg)), (.v gArg)) else chk (a0.Parts.length * 24 ≤ 140737488355328) ((iter (g_frame_Carry_L58 a0 a1 a2) ((List.replicate a0.Parts.length ([] : List GMsg)), 0)).bind (fun l50 => some (l50, .nil)))))
noncomputable def g_frame_Windows_J3 (i49 : Nat) : (List GWindow) → Option ((List GWindow × Nat) ⊕ (List GWindow)) := fun l555 => some (.inl (l555, i49 + 1))
noncomputable def g_frame_Windows_L4 (a0 : GConfig) (a1 : Int) : (List GWindow × Nat) → Option ((List GWindow × Nat) ⊕ (List GWindow)) := fun (l46, i49) => (bif decide (i49 < a0.Windows.length) then (((a0.Windows[i49]?).bind fun x558 => (bif decide (x558.Part = a1) then chk ((l46.length + [x558].length) * 24 ≤ 140737488355328) (some (l46 ++ [x558])) else some l46)) : Option (List GWindow)).bind (fun p => (g_frame_Windows_J3 i49) p) else some (.inr l46))
noncomputable def g_frame_Windows (a0 : GConfig) (a1 : Int) : Option (List GWindow × ErrM) := (g_frame_Check a0).bind fun r24 => (bif (!decide (r24 = .nil)) then some (([] : List GWindow), (.v gPlan)) else (g_frame_owner a0 a1).bind fun r35 => (bif (!r35) then some (([] : List GWindow), (.v gArg)) else (iter (g_frame_Windows_L4 a0 a1) (([] : List GWindow), 0)).bind (fun l46 => some (l46, .nil))))
noncomputable def g_frame_sum_L1 (a0 : List GWindow) : (Int × Nat) → Option ((Int × Nat) ⊕ Int) := fun (z25, i24) => (bif decide (i24 < a0.length) then (a0[i24]?).bind fun x29 => some (.inl ((IntKind.i64.wrap (z25 + x29.Len)), i24 + 1)) else some (.inr z25))
noncomputable def g_frame_sum (a0 : List GWindow) : Option Int := (iter (g_frame_sum_L1 a0) (0, 0)).bind (fun z25 => some z25)
noncomputable def g_frame_Load (a0 : GConfig) (a1 : Int) : Option (Int × ErrM) := (g_frame_Windows a0 a1).bind fun r24 => (g_frame_sum r24.1).bind fun r32 => some (r32, r24.2)
noncomputable def g_frame_Next_L1 (a2 : Int) (r24 : List GWindow × ErrM) : Nat → Option (Nat ⊕ (Unit ⊕ (Int × ErrM))) := fun i39 => (bif decide (i39 < r24.1.length) then (r24.1[i39]?).bind fun x43 => (bif decide (a2 < (IntKind.i64.wrap (x43.Start + x43.Len))) then some (.inr (.inr ((if x43.Start > a2 then x43.Start else a2), .nil))) else some (.inl (i39 + 1))) else some (.inr (.inl ())))
noncomputable def g_frame_Next (a0 : GConfig) (a1 : Int) (a2 : Int) : Option (Int × ErrM) := (g_frame_Windows a0 a1).bind fun r24 => (bif (!decide (r24.2 = .nil)) then some (0, r24.2) else (bif (decide (a2 < 0) || decide (a0.Ticks ≤ a2)) then some (0, (.v gArg)) else (iter (g_frame_Next_L1 a2 r24) 0).bind (fun q => match q with | .inl _ => some (0, (.v gNone)) | .inr p => some p)))
noncomputable def g_law14_small : Option GConfig := some (⟨100, [(⟨0, false, [(⟨5, ⟨#[]⟩⟩ : GPagePlan)], [(⟨0, 0, false⟩ : GProcPlan)], [(⟨4, 4, 2, 0⟩ : GPortPlan)], 0, ([] : List Int)⟩ : GPlan), (⟨1, false, [(⟨5, ⟨#[]⟩⟩ : GPagePlan)], [(⟨0, 0, false⟩ : GProcPlan)], [(⟨3, 4, 2, 0⟩ : GPortPlan)], 0, ([] : List Int)⟩ : GPlan)], [0, 0], [(⟨0, 0, 40⟩ : GWindow), (⟨(-1), 50, 10⟩ : GWindow), (⟨1, 60, 20⟩ : GWindow), (⟨0, 80, 20⟩ : GWindow)], [(⟨0, 0, 1, 0⟩ : GLink)], 5⟩ : GConfig)
noncomputable def g_law14_fixed_J3 (r21 : GConfig) : Bool → Option Bool := fun q1082 => (bif q1082 then some false else (g_frame_Check (⟨99, r21.Parts, r21.Homes, r21.Windows, r21.Links, r21.Tries⟩ : GConfig)).bind fun r1098 => (bif decide ((ErrM.code r1098) = 4) then some (decide ((ErrM.place r1098) = 3)) else some false))
noncomputable def g_law14_fixed_J4 (r21 : GConfig) : Bool → Option Bool := fun q545 => (bif q545 then some false else (g_frame_Next r21 0 40).bind fun r556 => (g_frame_Carry r21 [true, true] [[(⟨0, ⟨#[97]⟩⟩ : GMsg)], ([] : List GMsg)]).bind fun r573 => (((bif (!decide (r556.2 = .nil)) then some true else (bif (!decide (r556.1 = 80)) then some true else (bif (!decide (r573.2 = .nil)) then some true else (bif (!decide (r573.1.length = 2)) then some true else (r573.1[1]?).bind fun x1088 => (bif (!decide (x1088.length = 1)) then some true else (r573.1[1]?).bind fun x1091 => (x1091[0]?).bind fun x1093 => some (!decide (x1093.Data = ⟨#[97]⟩)))))))) : Option Bool).bind (fun p => (g_law14_fixed_J3 r21) p))
noncomputable def g_law14_fixed : Option Bool := (g_law14_small).bind fun r21 => (g_frame_Load r21 0).bind fun r38 => (((g_frame_Check r21).bind fun r546 => (bif (!decide (r546 = .nil)) then some true else (bif (!decide (r38.2 = .nil)) then some true else some (!decide (r38.1 = 60))))) : Option Bool).bind (fun p => (g_law14_fixed_J4 r21) p)
structure GR14Err where
  Code : Int
  Place : Int
  deriving DecidableEq
def eGR14Err (x : GR14Err) : List Value := [.int .i64 x.Code, .int .i64 x.Place]
theorem eGR14Err_len (x : GR14Err) : (eGR14Err x).length = 2 := by simp [eGR14Err]
theorem eGR14Err_one (x : GR14Err) : ∀ u ∈ eGR14Err x, u.oneCell' = true := by
  intro u hu
  simp only [eGR14Err, List.mem_append, List.mem_cons, List.mem_map, List.not_mem_nil, or_false] at hu
  rcases hu with rfl | rfl <;> rfl
noncomputable def g_r14_bad (a0 : Int) : Option GR14Err := some (⟨a0, (-1)⟩ : GR14Err)
structure GR10Err where
  Code : Int
  Place : Int
  deriving DecidableEq
def eGR10Err (x : GR10Err) : List Value := [.int .i64 x.Code, .int .i64 x.Place]
theorem eGR10Err_len (x : GR10Err) : (eGR10Err x).length = 2 := by simp [eGR10Err]
theorem eGR10Err_one (x : GR10Err) : ∀ u ∈ eGR10Err x, u.oneCell' = true := by
  intro u hu
  simp only [eGR10Err, List.mem_append, List.mem_cons, List.mem_map, List.not_mem_nil, or_false] at hu
  rcases hu with rfl | rfl <;> rfl
noncomputable def g_r10_bad (a0 : Int) : Option GR10Err := some (⟨a0, (-1)⟩ : GR10Err)
noncomputable def g_r10_none : Option GR10Err := some (⟨0, (-1)⟩ : GR10Err)
noncomputable def g_r10_pages_J12 (a0 : GPlan) (i36 : Nat) : Bool → Option (Nat ⊕ (Unit ⊕ GR10Err)) := fun q541 => (bif q541 then some (.inr (.inr (⟨4, ((i36 : Nat) : Int)⟩ : GR10Err))) else (a0.Pages[i36]?).bind fun x549 => (bif decide (64 < x549.Init.size) then some (.inr (.inr (⟨5, ((i36 : Nat) : Int)⟩ : GR10Err))) else some (.inl (i36 + 1))))
noncomputable def g_r10_pages_L13 (a0 : GPlan) : Nat → Option (Nat ⊕ (Unit ⊕ GR10Err)) := fun i36 => (bif decide (i36 < a0.Pages.length) then (((a0.Pages[i36]?).bind fun x542 => (bif decide (x542.Rights < 0) then some true else (a0.Pages[i36]?).bind fun x544 => some (decide (7 < x544.Rights)))) : Option Bool).bind (fun p => (g_r10_pages_J12 a0 i36) p) else some (.inr (.inl ())))
noncomputable def g_r10_pages (a0 : GPlan) : Option GR10Err := (bif (decide (a0.Pages.length < 1) || decide (32 < a0.Pages.length)) then (g_r10_bad 11).bind fun r29 => some r29 else (iter (g_r10_pages_L13 a0) 0).bind (fun q => match q with | .inl _ => (g_r10_none).bind fun r553 => some r553 | .inr p => some p))
noncomputable def g_r10_procs_J6 (i36 : Nat) : Bool → Option (Nat ⊕ (Unit ⊕ GR10Err)) := fun q547 => (bif q547 then some (.inr (.inr (⟨4, ((i36 : Nat) : Int)⟩ : GR10Err))) else some (.inl (i36 + 1)))
noncomputable def g_r10_procs_L7 (a0 : GPlan) : Nat → Option (Nat ⊕ (Unit ⊕ GR10Err)) := fun i36 => (bif decide (i36 < a0.Procs.length) then (a0.Procs[i36]?).bind fun x40 => (((bif decide (x40.Entry < 0) then some true else (bif (!decide ((Int.tmod x40.Entry 4) = 0)) then some true else (bif decide ((IntKind.i64.wrap (64 * ((a0.Pages.length : Nat) : Int))) ≤ x40.Entry) then some true else (bif decide (x40.Prio < 0) then some true else some (decide (255 < x40.Prio))))))) : Option Bool).bind (fun p => (g_r10_procs_J6 i36) p) else some (.inr (.inl ())))
noncomputable def g_r10_procs (a0 : GPlan) : Option GR10Err := (bif (decide (a0.Procs.length < 1) || decide (8 < a0.Procs.length)) then (g_r10_bad 11).bind fun r29 => some r29 else (iter (g_r10_procs_L7 a0) 0).bind (fun q => match q with | .inl _ => (g_r10_none).bind fun r557 => some r557 | .inr p => some p))
noncomputable def g_r07_CheckPlan (a0 : GPortPlan) : Option Int := (bif (decide (a0.Kind < 1) || decide (4 < a0.Kind)) then some 7 else (bif (decide (a0.Size < 1) || decide (32 < a0.Size)) then some 11 else (bif ((decide (a0.Depth < 1) || decide (8 < a0.Depth)) || ((!(decide (3 ≤ a0.Kind))) && (!decide (a0.Depth = 1)))) then some 4 else (bif ((decide (a0.Refresh < 0) || decide (255 < a0.Refresh)) || ((!decide (a0.Kind = 1)) && (!decide (a0.Refresh = 0)))) then some 4 else some 0))))
noncomputable def g_r10_ports_L1 (a0 : GPlan) : Nat → Option (Nat ⊕ (Unit ⊕ GR10Err)) := fun i36 => (bif decide (i36 < a0.Ports.length) then (a0.Ports[i36]?).bind fun x40 => (g_r07_CheckPlan x40).bind fun r41 => (bif (!decide (r41 = 0)) then some (.inr (.inr (⟨r41, ((i36 : Nat) : Int)⟩ : GR10Err))) else some (.inl (i36 + 1))) else some (.inr (.inl ())))
noncomputable def g_r10_ports (a0 : GPlan) : Option GR10Err := (bif decide (8 < a0.Ports.length) then (g_r10_bad 11).bind fun r29 => some r29 else (iter (g_r10_ports_L1 a0) 0).bind (fun q => match q with | .inl _ => (g_r10_none).bind fun r48 => some r48 | .inr p => some p))
noncomputable def g_r10_things_J6 (i43 : Nat) : Bool → Option (Nat ⊕ (Unit ⊕ GR10Err)) := fun q548 => (bif q548 then some (.inr (.inr (⟨4, ((i43 : Nat) : Int)⟩ : GR10Err))) else some (.inl (i43 + 1)))
noncomputable def g_r10_things_L7 (a0 : GPlan) : Nat → Option (Nat ⊕ (Unit ⊕ GR10Err)) := fun i43 => (bif decide (i43 < a0.Sems.length) then (((a0.Sems[i43]?).bind fun x549 => (bif decide (x549 < 0) then some true else (a0.Sems[i43]?).bind fun x551 => some (decide (255 < x551)))) : Option Bool).bind (fun p => (g_r10_things_J6 i43) p) else some (.inr (.inl ())))
noncomputable def g_r10_things (a0 : GPlan) : Option GR10Err := (bif (decide (a0.Events < 0) || decide (8 < a0.Events)) then (g_r10_bad 4).bind fun r28 => some r28 else (bif decide (8 < a0.Sems.length) then (g_r10_bad 11).bind fun r36 => some r36 else (iter (g_r10_things_L7 a0) 0).bind (fun q => match q with | .inl _ => (g_r10_none).bind fun r556 => some r556 | .inr p => some p)))
noncomputable def g_r07_Most (a0 : GPortPlan) : Option (Int × Int) := (g_r07_CheckPlan a0).bind fun r24 => (bif (!decide (r24 = 0)) then some (0, 8) else (bif decide (a0.Kind = 1) then some ((IntKind.i64.wrap (3 + a0.Size)), 0) else (bif decide (a0.Kind = 3) then some ((IntKind.i64.wrap (2 + (IntKind.i64.wrap (a0.Depth * (IntKind.i64.wrap (1 + a0.Size)))))), 0) else some (2, 0))))
noncomputable def g_r10_bound_L1 (a0 : GPlan) : (Int × Nat) → Option ((Int × Nat) ⊕ Int) := fun (z28, i29) => (bif decide (i29 < a0.Ports.length) then (a0.Ports[i29]?).bind fun x34 => (g_r07_Most x34).bind fun r35 => some (.inl ((IntKind.i64.wrap (z28 + (IntKind.i64.wrap (3 + r35.1)))), i29 + 1)) else some (.inr z28))
noncomputable def g_r10_bound (a0 : GPlan) : Option Int := (iter (g_r10_bound_L1 a0) ((IntKind.i64.wrap ((IntKind.i64.wrap ((IntKind.i64.wrap ((IntKind.i64.wrap (58 + (IntKind.i64.wrap (76 * ((a0.Procs.length : Nat) : Int))))) + (IntKind.i64.wrap (68 * ((a0.Pages.length : Nat) : Int))))) + a0.Events)) + ((a0.Sems.length : Nat) : Int))), 0)).bind (fun z28 => some z28)
noncomputable def g_r10_Check_L1 (r37 : GR10Err) (r41 : GR10Err) (r45 : GR10Err) (r49 : GR10Err) : Nat → Option (Nat ⊕ (Unit ⊕ GR10Err)) := fun i58 => (bif decide (i58 < [r37, r41, r45, r49].length) then ([r37, r41, r45, r49][i58]?).bind fun x63 => (bif (!decide (x63.Code = 0)) then ([r37, r41, r45, r49][i58]?).bind fun x65 => some (.inr (.inr x65)) else some (.inl (i58 + 1))) else some (.inr (.inl ())))
noncomputable def g_r10_Check (a0 : GPlan) : Option GR10Err := (bif (decide (a0.Id < 0) || decide (2147483647 < a0.Id)) then (g_r10_bad 4).bind fun r28 => some r28 else (g_r10_pages a0).bind fun r37 => (g_r10_procs a0).bind fun r41 => (g_r10_ports a0).bind fun r45 => (g_r10_things a0).bind fun r49 => (iter (g_r10_Check_L1 r37 r41 r45 r49) 0).bind (fun q => match q with | .inl _ => (g_r10_bound a0).bind fun r68 => (bif decide (4096 < r68) then (g_r10_bad 11).bind fun r73 => some r73 else (g_r10_none).bind fun r79 => some r79) | .inr p => some p))
noncomputable def g_r10_Good (a0 : GPlan) : Option Bool := (g_r10_Check a0).bind fun r24 => some (decide (r24.Code = 0))
noncomputable def g_r14_none : Option GR14Err := some (⟨0, (-1)⟩ : GR14Err)
noncomputable def g_r14_parts_J6 (i61 : Nat) : Bool → Option (Nat ⊕ (Unit ⊕ GR14Err)) := fun q566 => (bif q566 then some (.inr (.inr (⟨4, ((i61 : Nat) : Int)⟩ : GR14Err))) else some (.inl (i61 + 1)))
noncomputable def g_r14_parts_L7 (a0 : GConfig) : Nat → Option (Nat ⊕ (Unit ⊕ GR14Err)) := fun i61 => (bif decide (i61 < a0.Homes.length) then (((a0.Homes[i61]?).bind fun x567 => (bif (!decide (x567 = 0)) then (a0.Homes[i61]?).bind fun x569 => some (!decide (x569 = 1)) else some false)) : Option Bool).bind (fun p => (g_r14_parts_J6 i61) p) else some (.inr (.inl ())))
noncomputable def g_r14_parts_L8 (a0 : GConfig) : Nat → Option (Nat ⊕ (Unit ⊕ GR14Err)) := fun i36 => (bif decide (i36 < a0.Parts.length) then (a0.Parts[i36]?).bind fun x40 => (g_r10_Good x40).bind fun r41 => (bif (!r41) then some (.inr (.inr (⟨8, ((i36 : Nat) : Int)⟩ : GR14Err))) else (a0.Parts[i36]?).bind fun x48 => (bif (!decide (x48.Id = ((i36 : Nat) : Int))) then some (.inr (.inr (⟨12, ((i36 : Nat) : Int)⟩ : GR14Err))) else some (.inl (i36 + 1)))) else some (.inr (.inl ())))
noncomputable def g_r14_parts (a0 : GConfig) : Option GR14Err := (bif (decide (a0.Parts.length < 1) || decide (8 < a0.Parts.length)) then (g_r14_bad 11).bind fun r29 => some r29 else (iter (g_r14_parts_L8 a0) 0).bind (fun q => match q with | .inl _ => (bif (!decide (a0.Homes.length = a0.Parts.length)) then (g_r14_bad 11).bind fun r54 => some r54 else (iter (g_r14_parts_L7 a0) 0).bind (fun q => match q with | .inl _ => (g_r14_none).bind fun r574 => some r574 | .inr p => some p)) | .inr p => some p))
noncomputable def g_r14_count_J4 (i26 : Nat) : Int → Option ((Int × Nat) ⊕ Int) := fun z533 => some (.inl (z533, i26 + 1))
noncomputable def g_r14_count_L5 (a0 : GConfig) (a1 : Int) : (Int × Nat) → Option ((Int × Nat) ⊕ Int) := fun (z27, i26) => (bif decide (i26 < a0.Windows.length) then (((a0.Windows[i26]?).bind fun x534 => (bif decide (x534.Part = a1) then some (IntKind.i64.wrap (z27 + 1)) else some z27)) : Option Int).bind (fun p => (g_r14_count_J4 i26) p) else some (.inr z27))
noncomputable def g_r14_count (a0 : GConfig) (a1 : Int) : Option Int := (iter (g_r14_count_L5 a0 a1) (0, 0)).bind (fun z27 => some z27)
noncomputable def g_r14_owner (a0 : GConfig) (a1 : Int) : Option Bool := some (decide ((-1) ≤ a1) && decide (a1 < ((a0.Parts.length : Nat) : Int)))
noncomputable def g_r14_windows_J4 (i36 : Nat) : Bool → Option (Nat ⊕ (Unit ⊕ GR14Err)) := fun q557 => (bif q557 then some (.inr (.inr (⟨14, ((i36 : Nat) : Int)⟩ : GR14Err))) else some (.inl (i36 + 1)))
noncomputable def g_r14_windows_L5 (a0 : GConfig) : Nat → Option (Nat ⊕ (Unit ⊕ GR14Err)) := fun i570 => (bif decide (i570 < a0.Parts.length) then (g_r14_count a0 ((i570 : Nat) : Int)).bind fun r575 => (bif decide (r575 = 0) then some (.inr (.inr (⟨17, ((i570 : Nat) : Int)⟩ : GR14Err))) else some (.inl (i570 + 1))) else some (.inr (.inl ())))
noncomputable def g_r14_windows_L6 (a0 : GConfig) : Nat → Option (Nat ⊕ (Unit ⊕ GR14Err)) := fun i36 => (bif decide (i36 < a0.Windows.length) then (a0.Windows[i36]?).bind fun x40 => (g_r14_owner a0 x40.Part).bind fun r46 => (bif (!r46) then some (.inr (.inr (⟨12, ((i36 : Nat) : Int)⟩ : GR14Err))) else (bif (((decide (x40.Start < 0) || decide (x40.Len < 1)) || decide (a0.Ticks ≤ x40.Start)) || decide ((IntKind.i64.wrap (a0.Ticks - x40.Start)) < x40.Len)) then some (.inr (.inr (⟨4, ((i36 : Nat) : Int)⟩ : GR14Err))) else (((bif decide (0 < i36) then (rdI a0.Windows (IntKind.i64.wrap (((i36 : Nat) : Int) - 1))).bind fun x559 => (rdI a0.Windows (IntKind.i64.wrap (((i36 : Nat) : Int) - 1))).bind fun x560 => some (decide (x40.Start < (IntKind.i64.wrap (x559.Start + x560.Len)))) else some false)) : Option Bool).bind (fun p => (g_r14_windows_J4 i36) p))) else some (.inr (.inl ())))
noncomputable def g_r14_windows (a0 : GConfig) : Option GR14Err := (bif decide (32 < a0.Windows.length) then (g_r14_bad 11).bind fun r29 => some r29 else (iter (g_r14_windows_L6 a0) 0).bind (fun q => match q with | .inl _ => (iter (g_r14_windows_L5 a0) 0).bind (fun q => match q with | .inl _ => (g_r14_none).bind fun r582 => some r582 | .inr p => some p) | .inr p => some p))
noncomputable def g_r14_kind (a0 : GConfig) (a1 : Int) (a2 : Int) : Option Int := (rdI a0.Parts a1).bind fun x25 => (bif (decide (a2 < 0) || decide (((x25.Ports.length : Nat) : Int) ≤ a2)) then some 0 else (rdI x25.Ports a2).bind fun x28 => some x28.Kind)
noncomputable def g_r14_links_J23 (a0 : GConfig) (i36 : Nat) (x40 : GLink) : Bool → Option (Nat ⊕ (Unit ⊕ GR14Err)) := fun q1065 => (bif q1065 then some (.inr (.inr (⟨8, ((i36 : Nat) : Int)⟩ : GR14Err))) else (g_r14_kind a0 x40.From x40.Out).bind fun r1074 => (g_r14_kind a0 x40.To x40.In).bind fun r1075 => (bif (((!decide (r1074 = 2)) && (!decide (r1074 = 4))) || ((!decide (r1075 = 1)) && (!decide (r1075 = 3)))) then some (.inr (.inr (⟨7, ((i36 : Nat) : Int)⟩ : GR14Err))) else some (.inl (i36 + 1))))
noncomputable def g_r14_links_J24 (a0 : GConfig) (i36 : Nat) (x40 : GLink) : Bool → Option (Nat ⊕ (Unit ⊕ GR14Err)) := fun q547 => (bif q547 then some (.inr (.inr (⟨12, ((i36 : Nat) : Int)⟩ : GR14Err))) else (((rdI a0.Parts x40.From).bind fun x1067 => (bif x1067.Mobile then some true else (rdI a0.Parts x40.To).bind fun x1069 => some x1069.Mobile)) : Option Bool).bind (fun p => (g_r14_links_J23 a0 i36 x40) p))
noncomputable def g_r14_links_L25 (a0 : GConfig) : Nat → Option (Nat ⊕ (Unit ⊕ GR14Err)) := fun i36 => (bif decide (i36 < a0.Links.length) then (a0.Links[i36]?).bind fun x40 => (((bif decide (x40.From < 0) then some true else (bif decide (x40.To < 0) then some true else (g_r14_owner a0 x40.From).bind fun r550 => (bif (!r550) then some true else (g_r14_owner a0 x40.To).bind fun r555 => (bif (!r555) then some true else some (decide (x40.From = x40.To))))))) : Option Bool).bind (fun p => (g_r14_links_J24 a0 i36 x40) p) else some (.inr (.inl ())))
noncomputable def g_r14_links (a0 : GConfig) : Option GR14Err := (bif decide (16 < a0.Links.length) then (g_r14_bad 11).bind fun r29 => some r29 else (iter (g_r14_links_L25 a0) 0).bind (fun q => match q with | .inl _ => (g_r14_none).bind fun r1081 => some r1081 | .inr p => some p))
noncomputable def g_r14_Check_J6 (i1067 : Nat) : Bool → Option (Nat ⊕ (Unit ⊕ GR14Err)) := fun q1573 => (bif q1573 then (g_r14_bad 17).bind fun r1582 => some (.inr (.inr r1582)) else some (.inl (i1067 + 1)))
noncomputable def g_r14_Check_L7 (a0 : GConfig) : Nat → Option (Nat ⊕ (Unit ⊕ GR14Err)) := fun i1067 => (bif decide (i1067 < a0.Parts.length) then (((a0.Parts[i1067]?).bind fun x1574 => (bif x1574.Mobile then (g_r14_count a0 (-1)).bind fun r1576 => some (decide (r1576 = 0)) else some false)) : Option Bool).bind (fun p => (g_r14_Check_J6 i1067) p) else some (.inr (.inl ())))
noncomputable def g_r14_Check_J8 (a0 : GConfig) : GR14Err → Option GR14Err := fun t1054 => (bif (!decide (t1054.Code = 0)) then some t1054 else (iter (g_r14_Check_L7 a0) 0).bind (fun q => match q with | .inl _ => (g_r14_none).bind fun r1588 => some r1588 | .inr p => some p))
noncomputable def g_r14_Check_J9 (a0 : GConfig) : GR14Err → Option GR14Err := fun t544 => (((bif decide (t544.Code = 0) then (g_r14_links a0).bind fun r1056 => some r1056 else some t544)) : Option GR14Err).bind (fun p => (g_r14_Check_J8 a0) p)
noncomputable def g_r14_Check (a0 : GConfig) : Option GR14Err := (bif (((decide (a0.Ticks < 1) || decide (10000 < a0.Ticks)) || decide (a0.Tries < 1)) || decide (64 < a0.Tries)) then (g_r14_bad 4).bind fun r28 => some r28 else (g_r14_parts a0).bind fun r34 => (((bif decide (r34.Code = 0) then (g_r14_windows a0).bind fun r546 => some r546 else some r34)) : Option GR14Err).bind (fun p => (g_r14_Check_J9 a0) p))
noncomputable def g_r14_Good (a0 : GConfig) : Option Bool := (g_r14_Check a0).bind fun r24 => some (decide (r24.Code = 0))
noncomputable def g_r10_Copy (a0 : GPlan) : Option GPlan := chk ((([] : List GPagePlan).length + a0.Pages.length) * 24 ≤ 140737488355328) (chk ((([] : List GProcPlan).length + a0.Procs.length) * 24 ≤ 140737488355328) (chk ((([] : List GPortPlan).length + a0.Ports.length) * 32 ≤ 140737488355328) (chk ((([] : List Int).length + a0.Sems.length) * 8 ≤ 140737488355328) (some (⟨a0.Id, a0.Mobile, (([] : List GPagePlan) ++ a0.Pages), (([] : List GProcPlan) ++ a0.Procs), (([] : List GPortPlan) ++ a0.Ports), a0.Events, (([] : List Int) ++ a0.Sems)⟩ : GPlan)))))
noncomputable def g_r14_Copy_L1 (a0 : GConfig) : (List GPlan × Nat) → Option ((List GPlan × Nat) ⊕ (List GPlan)) := fun (l28, i31) => (bif decide (i31 < a0.Parts.length) then (a0.Parts[i31]?).bind fun x37 => (g_r10_Copy x37).bind fun r38 => chk ((l28.length + 1) * 120 ≤ 140737488355328) (some (.inl ((l28 ++ [r38]), i31 + 1))) else some (.inr l28))
noncomputable def g_r14_Copy (a0 : GConfig) : Option GConfig := (iter (g_r14_Copy_L1 a0) (([] : List GPlan), 0)).bind (fun l28 => chk ((([] : List Int).length + a0.Homes.length) * 8 ≤ 140737488355328) (chk ((([] : List GWindow).length + a0.Windows.length) * 24 ≤ 140737488355328) (chk ((([] : List GLink).length + a0.Links.length) * 32 ≤ 140737488355328) (some (⟨a0.Ticks, l28, (([] : List Int) ++ a0.Homes), (([] : List GWindow) ++ a0.Windows), (([] : List GLink) ++ a0.Links), a0.Tries⟩ : GConfig)))))
noncomputable def g_r14_Carry_J37 (z60 : Int) : (List (List GMsg)) → Option ((List (List GMsg) × Int) ⊕ (List (List GMsg))) := fun l1073 => some (.inl (l1073, (IntKind.i64.wrap (z60 + 1))))
noncomputable def g_r14_Carry_J38 (a2 : List (List GMsg)) (x49 : GLink) (l56 : List (List GMsg)) (z60 : Int) : Bool → Option ((List (List GMsg) × Int) ⊕ (List (List GMsg))) := fun q563 => (bif q563 then (((rdI a2 x49.From).bind fun x1076 => (rdI x1076 z60).bind fun x1078 => (bif decide (x1078.Port = x49.Out) then (rdI l56 x49.To).bind fun x1089 => chk ((x1089.length + [(⟨x49.In, x1078.Data⟩ : GMsg)].length) * 24 ≤ 140737488355328) (some (l56.set x49.To.toNat (x1089 ++ [(⟨x49.In, x1078.Data⟩ : GMsg)]))) else some l56)) : Option (List (List GMsg))).bind (fun p => (g_r14_Carry_J37 z60) p) else some (.inr l56))
noncomputable def g_r14_Carry_L39 (a1 : List Bool) (a2 : List (List GMsg)) (x49 : GLink) : (List (List GMsg) × Int) → Option ((List (List GMsg) × Int) ⊕ (List (List GMsg))) := fun (l56, z60) => (((rdI a2 x49.From).bind fun x564 => (bif decide (z60 < ((x564.length : Nat) : Int)) then (rdI a1 x49.From).bind fun x567 => (bif x567 then (rdI a1 x49.To).bind fun x569 => some x569 else some false) else some false)) : Option Bool).bind (fun p => (g_r14_Carry_J38 a2 x49 l56 z60) p)
noncomputable def g_r14_Carry_L40 (a0 : GConfig) (a1 : List Bool) (a2 : List (List GMsg)) : (List (List GMsg) × Nat) → Option ((List (List GMsg) × Nat) ⊕ (List (List GMsg))) := fun (l41, i44) => (bif decide (i44 < a0.Links.length) then (a0.Links[i44]?).bind fun x49 => (iter (g_r14_Carry_L39 a1 a2 x49) (l41, 0)).bind (fun l56 => some (.inl (l56, i44 + 1))) else some (.inr l41))
noncomputable def g_r14_Carry (a0 : GConfig) (a1 : List Bool) (a2 : List (List GMsg)) : Option (List (List GMsg) × Int) := (g_r14_Good a0).bind fun r24 => (bif (!r24) then some (([] : List (List GMsg)), 8) else (bif ((!decide (a1.length = a0.Parts.length)) || (!decide (a2.length = a0.Parts.length))) then some (([] : List (List GMsg)), 12) else chk (a0.Parts.length * 24 ≤ 140737488355328) ((iter (g_r14_Carry_L40 a0 a1 a2) ((List.replicate a0.Parts.length ([] : List GMsg)), 0)).bind (fun l41 => some (l41, 0)))))
noncomputable def g_law14_copied_L1 (a0 : List (List GMsg)) : (List (List GMsg) × Nat) → Option ((List (List GMsg) × Nat) ⊕ (List (List GMsg))) := fun (l22, i25) => (bif decide (i25 < a0.length) then (a0[i25]?).bind fun x35 => chk ((([] : List GMsg).length + x35.length) * 24 ≤ 140737488355328) (chk ((l22.length + 1) * 24 ≤ 140737488355328) (some (.inl ((l22 ++ [(([] : List GMsg) ++ x35)]), i25 + 1)))) else some (.inr l22))
noncomputable def g_law14_copied (a0 : List (List GMsg)) : Option (List (List GMsg)) := (iter (g_law14_copied_L1 a0) (([] : List (List GMsg)), 0)).bind (fun l22 => some l22)
noncomputable def g_law14_same (a0 : ErrM) (a1 : Int) : Option Bool := (bif decide ((ErrM.code a0) = a1) then some (decide ((ErrM.place a0) = (-1))) else some false)
theorem eqInGMsg (x y : GMsg) : EqIn Tryd.prog 50 2 (.agg (eGMsg x).toArray) (.agg (eGMsg y).toArray) (decide (x = y)) := by
  have h := eqIn_struct (m := 1) st50 (eqFs_cons (part_one (cs := eGMsg x) (v := Value.int .i64 x.Port) ag3 rfl) (part_one (cs := eGMsg y) (v := Value.int .i64 y.Port) ag3 rfl) ((eqIn_int Tryd.underlying3).mono (by omega)) (eqFs_cons (part_one (cs := eGMsg x) (v := Value.string x.Data) ag9 rfl) (part_one (cs := eGMsg y) (v := Value.string y.Data) ag9 rfl) ((eqIn_string Tryd.underlying9).mono (by omega)) eqFs_nil))
  have e : decide (x = y) = (decide (x.Port = y.Port) && (decide (x.Data = y.Data) && true)) := by
    cases x; cases y; simp [Bool.decide_and]
  rw [e]; exact h
noncomputable def g_r14_SameMsgs_L1 (a0 : List GMsg) (a1 : List GMsg) : Nat → Option (Nat ⊕ (Unit ⊕ Bool)) := fun i25 => (bif decide (i25 < a0.length) then (a0[i25]?).bind fun x29 => (a1[i25]?).bind fun x30 => (bif (!decide (x29 = x30)) then some (.inr (.inr false)) else some (.inl (i25 + 1))) else some (.inr (.inl ())))
noncomputable def g_r14_SameMsgs (a0 : List GMsg) (a1 : List GMsg) : Option Bool := (bif (!decide (a0.length = a1.length)) then some false else (iter (g_r14_SameMsgs_L1 a0 a1) 0).bind (fun q => match q with | .inl _ => some true | .inr p => some p))
structure GL14Case where
  C : GConfig
  D : GConfig
  Numbers : List Int
  Here : List Bool
  Emitted : List (List GMsg)
  deriving DecidableEq
def RGL14Case (w : World) (cs : List Value) (x : GL14Case) : Prop := ∃ v0 v1 v2 v3 v4 v5 v6 v7 v8 v9 v10, cs = [.int .i64 x.C.Ticks, v0, v1, v2, v3, .int .i64 x.C.Tries, .int .i64 x.D.Ticks, v4, v5, v6, v7, .int .i64 x.D.Tries, v8, v9, v10] ∧ SlR w 7 RGPlan v0 x.C.Parts ∧ SlR w 1 (Flat eI) v1 x.C.Homes ∧ SlR w 3 (Flat eGWindow) v2 x.C.Windows ∧ SlR w 4 (Flat eGLink) v3 x.C.Links ∧ SlR w 7 RGPlan v4 x.D.Parts ∧ SlR w 1 (Flat eI) v5 x.D.Homes ∧ SlR w 3 (Flat eGWindow) v6 x.D.Windows ∧ SlR w 4 (Flat eGLink) v7 x.D.Links ∧ SlR w 1 (Flat eI) v8 x.Numbers ∧ SlR w 1 (Flat eF) v9 x.Here ∧ SlR w 1 (RSl 2 eGMsg) v10 x.Emitted
theorem RGL14Case.mono : Mono RGL14Case := by
  intro w w' cs x e h
  obtain ⟨v0, v1, v2, v3, v4, v5, v6, v7, v8, v9, v10, rfl, h0, h1, h2, h3, h4, h5, h6, h7, h8, h9, h10⟩ := h
  exact ⟨v0, v1, v2, v3, v4, v5, v6, v7, v8, v9, v10, rfl, h0.agr RGPlan.mono e, h1.agr (Flat.mono _) e, h2.agr (Flat.mono _) e, h3.agr (Flat.mono _) e, h4.agr RGPlan.mono e, h5.agr (Flat.mono _) e, h6.agr (Flat.mono _) e, h7.agr (Flat.mono _) e, h8.agr (Flat.mono _) e, h9.agr (Flat.mono _) e, h10.agr (RSl.mono _ _) e⟩
noncomputable def g_law14_FrameCarries_L2 (r29 : List (List GMsg) × Int) (l536 : List (List GMsg)) : Nat → Option (Nat ⊕ (Unit ⊕ Bool)) := fun i1127 => (bif decide (i1127 < l536.length) then (l536[i1127]?).bind fun x1132 => (r29.1[i1127]?).bind fun x1134 => (g_r14_SameMsgs x1132 x1134).bind fun r1135 => (bif (!r1135) then some (.inr (.inr false)) else some (.inl (i1127 + 1))) else some (.inr (.inl ())))
noncomputable def g_law14_FrameCarries_J3 (r29 : List (List GMsg) × Int) (l536 : List (List GMsg)) : Bool → Option Bool := fun q1116 => (bif q1116 then some false else (iter (g_law14_FrameCarries_L2 r29 l536) 0).bind (fun q => match q with | .inl _ => some true | .inr p => some p))
noncomputable def g_law14_FrameCarries_J4 (r29 : List (List GMsg) × Int) : (List (List GMsg) × ErrM) → Option Bool := fun (l536, e539) => (((g_law14_same e539 r29.2).bind fun r1117 => (bif (!r1117) then some true else some (!decide (l536.length = r29.1.length)))) : Option Bool).bind (fun p => (g_law14_FrameCarries_J3 r29 l536) p)
noncomputable def g_law14_FrameCarries (a0 : GL14Case) : Option Bool := (g_law14_fixed).bind fun r24 => (bif (!r24) then some false else (g_r14_Carry a0.C a0.Here a0.Emitted).bind fun r29 => (((g_r14_Copy a0.C).bind fun r545 => chk ((([] : List Bool).length + a0.Here.length) * 1 ≤ 140737488355328) ((g_law14_copied a0.Emitted).bind fun r566 => (g_frame_Carry r545 (([] : List Bool) ++ a0.Here) r566).bind fun r572 => some (r572.1, r572.2))) : Option (List (List GMsg) × ErrM)).bind (fun p => (g_law14_FrameCarries_J4 r29) p))
noncomputable def g_law14_FrameLinks_J51 (z592 : Int) : Bool → Option (Int ⊕ Bool) := fun q2119 => (bif q2119 then some (.inr false) else some (.inl (IntKind.i64.wrap (z592 + 1))))
noncomputable def g_law14_FrameLinks_J52 (x566 : GLink) (r578 : List (List GMsg) × ErrM) (z592 : Int) (x1103 : GMsg) : Bool → Option (Int ⊕ Bool) := fun q1610 => (bif q1610 then some (.inl z592) else (((rdI r578.1 x566.To).bind fun x2120 => (bif decide (((x2120.length : Nat) : Int) ≤ z592) then some true else (rdI r578.1 x566.To).bind fun x2125 => (rdI x2125 z592).bind fun x2127 => some (!decide (x2127 = (⟨x566.In, x1103.Data⟩ : GMsg))))) : Option Bool).bind (fun p => (g_law14_FrameLinks_J51 z592) p))
noncomputable def g_law14_FrameLinks_J53 (i591 : Nat) : Int → Option ((Int × Nat) ⊕ (Int ⊕ Bool)) := fun z1100 => some (.inl (z1100, i591 + 1))
noncomputable def g_law14_FrameLinks_J59 (i2134 : Nat) : Bool → Option (Nat ⊕ (Unit ⊕ Bool)) := fun q2639 => (bif q2639 then some (.inr (.inr false)) else some (.inl (i2134 + 1)))
noncomputable def g_law14_FrameLinks_L60 (x566 : GLink) (r578 : List (List GMsg) × ErrM) (z592 : Int) : Nat → Option (Nat ⊕ (Unit ⊕ Bool)) := fun i2134 => (bif decide (i2134 < r578.1.length) then (((bif (!decide (((i2134 : Nat) : Int) = x566.To)) then (r578.1[i2134]?).bind fun x2641 => (bif (!decide (x2641.length = 0)) then some true else (bif decide (((i2134 : Nat) : Int) = x566.To) then (r578.1[i2134]?).bind fun x2645 => some (!decide (((x2645.length : Nat) : Int) = z592)) else some false)) else (bif decide (((i2134 : Nat) : Int) = x566.To) then (r578.1[i2134]?).bind fun x2648 => some (!decide (((x2648.length : Nat) : Int) = z592)) else some false))) : Option Bool).bind (fun p => (g_law14_FrameLinks_J59 i2134) p) else some (.inr (.inl ())))
noncomputable def g_law14_FrameLinks_L61 (a0 : GL14Case) (x566 : GLink) (r578 : List (List GMsg) × ErrM) : (Int × Nat) → Option ((Int × Nat) ⊕ (Int ⊕ Bool)) := fun (z592, i591) => (rdI a0.Emitted x566.From).bind fun x595 => (bif decide (i591 < x595.length) then (((rdI a0.Emitted x566.From).bind fun x1101 => (x1101[i591]?).bind fun x1103 => (((bif (!decide (x1103.Port = x566.Out)) then some true else (rdI a0.Here x566.From).bind fun x1613 => (bif (!x1613) then some true else (rdI a0.Here x566.To).bind fun x1615 => some (!x1615)))) : Option Bool).bind (fun p => (g_law14_FrameLinks_J52 x566 r578 z592 x1103) p)) : Option (Int ⊕ Bool)).bind (fun q => match q with | .inl p => (g_law14_FrameLinks_J53 i591) p | .inr p => some (.inr (.inr p))) else some (.inr (.inl z592)))
noncomputable def g_law14_FrameLinks_J62 (a0 : GL14Case) (a1 : Int) (r29 : GConfig) : Bool → Option Bool := fun q547 => (bif q547 then some true else chk ((IntKind.u64.wrap ((r29.Links.length : Nat) : Int)) ≠ 0) ((rdI r29.Links (IntKind.i64.wrap (Int.tmod (IntKind.u64.wrap a1) (IntKind.u64.wrap ((r29.Links.length : Nat) : Int))))).bind fun x566 => (g_frame_Carry (⟨r29.Ticks, r29.Parts, r29.Homes, r29.Windows, [x566], r29.Tries⟩ : GConfig) a0.Here a0.Emitted).bind fun r578 => (bif ((!decide (r578.2 = .nil)) || (!decide (r578.1.length = r29.Parts.length))) then some false else (iter (g_law14_FrameLinks_L61 a0 x566 r578) (0, 0)).bind (fun q => match q with | .inl z592 => (iter (g_law14_FrameLinks_L60 x566 r578 z592) 0).bind (fun q => match q with | .inl _ => some true | .inr p => some p) | .inr p => some p))))
noncomputable def g_law14_FrameLinks (a0 : GL14Case) (a1 : Int) : Option Bool := (g_law14_fixed).bind fun r24 => (bif (!r24) then some false else (g_r14_Copy a0.C).bind fun r29 => (((bif decide (r29.Links.length = 0) then some true else (g_r14_Good r29).bind fun r550 => (bif (!r550) then some true else (bif (!decide (a0.Emitted.length = r29.Parts.length)) then some true else some (!decide (a0.Here.length = r29.Parts.length)))))) : Option Bool).bind (fun p => (g_law14_FrameLinks_J62 a0 a1 r29) p))
noncomputable def g_frame_Idle (a0 : GConfig) : Option (Int × ErrM) := (g_frame_Check a0).bind fun r24 => (bif (!decide (r24 = .nil)) then some (0, (.v gPlan)) else (g_frame_sum a0.Windows).bind fun r34 => some ((IntKind.i64.wrap (a0.Ticks - r34)), .nil))
noncomputable def g_law14_walks_J16 (a0 : GConfig) (a2 : List GWindow) (i26 : Nat) : Bool → Option ((Int × Nat) ⊕ (Int ⊕ Bool)) := fun q539 => (bif q539 then some (.inr (.inr false)) else (a2[i26]?).bind fun x544 => (a2[i26]?).bind fun x545 => (bif decide (a0.Ticks ≤ (IntKind.i64.wrap (x544.Start + x545.Len))) then some (.inr (.inr (decide (i26 + 1 = a2.length)))) else some (.inl ((IntKind.i64.wrap (x544.Start + x545.Len)), i26 + 1))))
noncomputable def g_law14_walks_L17 (a0 : GConfig) (a1 : Int) (a2 : List GWindow) : (Int × Nat) → Option ((Int × Nat) ⊕ (Int ⊕ Bool)) := fun (z27, i26) => (bif decide (i26 < a2.length) then (g_frame_Next a0 a1 z27).bind fun r32 => (((bif (!decide (r32.2 = .nil)) then some true else (a2[i26]?).bind fun x541 => some (!decide (r32.1 = x541.Start)))) : Option Bool).bind (fun p => (g_law14_walks_J16 a0 a2 i26) p) else some (.inr (.inl z27)))
noncomputable def g_law14_walks (a0 : GConfig) (a1 : Int) (a2 : List GWindow) : Option Bool := (iter (g_law14_walks_L17 a0 a1 a2) (0, 0)).bind (fun q => match q with | .inl z27 => (g_frame_Next a0 a1 z27).bind fun r549 => some (decide ((ErrM.code r549.2) = 17)) | .inr p => some p)
noncomputable def g_frame_At_L1 (a0 : GConfig) (a1 : Int) : Nat → Option (Nat ⊕ (Unit ⊕ (Int × ErrM))) := fun i40 => (bif decide (i40 < a0.Windows.length) then (a0.Windows[i40]?).bind fun x44 => (bif (decide (x44.Start ≤ a1) && decide (a1 < (IntKind.i64.wrap (x44.Start + x44.Len)))) then some (.inr (.inr (x44.Part, .nil))) else some (.inl (i40 + 1))) else some (.inr (.inl ())))
noncomputable def g_frame_At (a0 : GConfig) (a1 : Int) : Option (Int × ErrM) := (g_frame_Check a0).bind fun r24 => (bif (!decide (r24 = .nil)) then some (0, (.v gPlan)) else (bif (decide (a1 < 0) || decide (a0.Ticks ≤ a1)) then some (0, (.v gArg)) else (iter (g_frame_At_L1 a0 a1) 0).bind (fun q => match q with | .inl _ => some (0, (.v gNone)) | .inr p => some p)))
noncomputable def g_law14_FrameTicks_J11 (z53 : Int) (z54 : Int) (r58 : Int × ErrM) : Bool → Option ((Int × Int) ⊕ (Int ⊕ Bool)) := fun q584 => (bif q584 then some (.inr (.inr false)) else some (.inl ((IntKind.i64.wrap (z53 + r58.1)), (IntKind.i64.wrap (z54 + 1)))))
noncomputable def g_law14_FrameTicks_L12 (z54 : Int) (r64 : List GWindow × ErrM) : (Int × Nat) → Option ((Int × Nat) ⊕ (Int ⊕ Bool)) := fun (z74, i75) => (bif decide (i75 < r64.1.length) then (r64.1[i75]?).bind fun x80 => (bif (!decide (x80.Part = z54)) then some (.inr (.inr false)) else (r64.1[i75]?).bind fun x82 => some (.inl ((IntKind.i64.wrap (z74 - x82.Len)), i75 + 1))) else some (.inr (.inl z74)))
noncomputable def g_law14_FrameTicks_J16 (a0 : GL14Case) (z596 : Int) : Int → Option ((Int × Int) ⊕ (Int ⊕ Bool)) := fun z1100 => some (.inl (z1100, (IntKind.i64.wrap (z596 + (IntKind.i64.wrap (1 + (IntKind.i64.wrap (Int.tdiv a0.C.Ticks 97))))))))
noncomputable def g_law14_FrameTicks_L17 (a0 : GL14Case) : (Int × Int) → Option ((Int × Int) ⊕ (Int ⊕ Bool)) := fun (z594, z596) => (bif decide (z596 < a0.C.Ticks) then (((g_frame_At a0.C z596).bind fun r1101 => (bif (!decide (r1101.2 = .nil)) then (bif (!decide ((ErrM.code r1101.2) = 17)) then some (.inr false) else some (.inl (IntKind.i64.wrap (z594 - 1)))) else (g_frame_Next a0.C r1101.1 z596).bind fun r1112 => (bif ((!decide (r1112.2 = .nil)) || (!decide (r1112.1 = z596))) then some (.inr false) else some (.inl z594)))) : Option (Int ⊕ Bool)).bind (fun q => match q with | .inl p => (g_law14_FrameTicks_J16 a0 z596) p | .inr p => some (.inr (.inr p))) else some (.inr (.inl z594)))
noncomputable def g_law14_FrameTicks_L18 (a0 : GL14Case) : (Int × Int) → Option ((Int × Int) ⊕ (Int ⊕ Bool)) := fun (z53, z54) => (bif decide (z54 < ((a0.C.Parts.length : Nat) : Int)) then (g_frame_Load a0.C z54).bind fun r58 => (g_frame_Windows a0.C z54).bind fun r64 => (bif ((!decide (r58.2 = .nil)) || (!decide (r64.2 = .nil))) then some (.inr (.inr false)) else (iter (g_law14_FrameTicks_L12 z54 r64) (r58.1, 0)).bind (fun q => match q with | .inl z74 => (((bif (!decide (z74 = 0)) then some true else (g_law14_walks a0.C z54 r64.1).bind fun r586 => some (!r586))) : Option Bool).bind (fun p => (g_law14_FrameTicks_J11 z53 z54 r58) p) | .inr p => some (.inr (.inr p)))) else some (.inr (.inl z53)))
noncomputable def g_law14_FrameTicks (a0 : GL14Case) : Option Bool := (g_law14_fixed).bind fun r24 => (bif (!r24) then some false else (g_r14_Good a0.C).bind fun r34 => (bif (!r34) then (g_frame_Check a0.C).bind fun r39 => some (!decide (r39 = .nil)) else (g_frame_Idle a0.C).bind fun r45 => (bif (!decide (r45.2 = .nil)) then some false else (iter (g_law14_FrameTicks_L18 a0) (r45.1, (-1))).bind (fun q => match q with | .inl z53 => (bif (!decide (z53 = a0.C.Ticks)) then some false else (iter (g_law14_FrameTicks_L17 a0) (r45.1, 0)).bind (fun q => match q with | .inl z594 => some (decide (0 ≤ z594)) | .inr p => some p)) | .inr p => some p))))
end Go.Proofs.YtjoihegnjjjdaaaDoor
