/- Vb (written by wip/tools) -/
import Derived.Test.YtjoihegnjjjdaaaDoorErrW
import Derived.Test.YtjoihegnjjjdaaaDoorCpy
set_option linter.unusedVariables false
set_option linter.unusedSimpArgs false
set_option maxRecDepth 10000
namespace Go.Proofs.YtjoihegnjjjdaaaDoor
open Go Go.RowKit


abbrev gShort : Nat := 2
abbrev gRest : Nat := 4
abbrev gTag : Nat := 5
abbrev gRange : Nat := 6
abbrev gLength : Nat := 7
abbrev gSum : Nat := 3
abbrev gKind : Nat := 8
abbrev gPlan : Nat := 0
abbrev gState : Nat := 9
abbrev gBase : Nat := 10
abbrev gSize : Nat := 11
abbrev gArg : Nat := 1
abbrev gEnd : Nat := 14
abbrev gBusy : Nat := 15
abbrev gDown : Nat := 16
abbrev gLost : Nat := 17
abbrev gNone : Nat := 12
abbrev gText : Nat := 18
abbrev gStop : Nat := 19
abbrev gDivide : Nat := 20
abbrev erQ (A : Nat → Addr) (u : Value) (e : ErrM) : Rs := anyR fun w => IsE A w u e
section
variable {fp : Nat → Prop} {w0 w : World} {rs : List Rs} {A : Nat → Addr} {b g : Nat} {p : Int}
theorem St.dAt (hg : g ∈ gAll) (h : St fp w0 w (blkR b [.int .i64 p, sv 329 A g] 146 :: rs)) : St fp w0 w (erQ A (.iface 142 (.pointer (some ⟨b, 0, none⟩))) (.pl p g) :: rs) := h.blkAny (fun w' h => IsErr.mk hg h)
theorem St.dVar (hg : g ∈ gAll) (h : St fp w0 w rs) : St fp w0 w (erQ A (sv 329 A g) (.v g) :: rs) := h.trivAny fun w' => ⟨hg, rfl⟩
theorem St.dAtE {r e : ErrM} {u : Value} {w2 : World} (hI : IsE A w2 u e) (he : errAt p e = some r) (h : St fp w0 w (blkR b [.int .i64 p, u] 146 :: rs)) : St fp w0 w (erQ A (.iface 142 (.pointer (some ⟨b, 0, none⟩))) r :: rs) := by
  obtain ⟨g, rfl, rfl⟩ := errAt_some he
  obtain ⟨hg, rfl⟩ := hI
  exact h.dAt hg
theorem St.dNil (h : St fp w0 w rs) : St fp w0 w (erQ A .nilIface .nil :: rs) := h.trivAny fun w' => rfl
end
noncomputable def g_plan_at (a0 : Int) (a1 : ErrM) : Option ErrM := (errAt a0 a1).bind fun r24 => some r24
structure GPagePlan where
  Rights : Int
  Init : ByteArray
  deriving DecidableEq
def eGPagePlan (x : GPagePlan) : List Value := [.int .i64 x.Rights, .string x.Init]
theorem eGPagePlan_len (x : GPagePlan) : (eGPagePlan x).length = 2 := by simp [eGPagePlan]
theorem eGPagePlan_one (x : GPagePlan) : ∀ u ∈ eGPagePlan x, u.oneCell' = true := by
  intro u hu
  simp only [eGPagePlan, List.mem_append, List.mem_cons, List.mem_map, List.not_mem_nil, or_false] at hu
  rcases hu with rfl | rfl <;> rfl
structure GProcPlan where
  Entry : Int
  Prio : Int
  Auto : Bool
  deriving DecidableEq
def eGProcPlan (x : GProcPlan) : List Value := [.int .i64 x.Entry, .int .i64 x.Prio, .bool x.Auto]
theorem eGProcPlan_len (x : GProcPlan) : (eGProcPlan x).length = 3 := by simp [eGProcPlan]
theorem eGProcPlan_one (x : GProcPlan) : ∀ u ∈ eGProcPlan x, u.oneCell' = true := by
  intro u hu
  simp only [eGProcPlan, List.mem_append, List.mem_cons, List.mem_map, List.not_mem_nil, or_false] at hu
  rcases hu with rfl | rfl | rfl <;> rfl
structure GPortPlan where
  Kind : Int
  Size : Int
  Depth : Int
  Refresh : Int
  deriving DecidableEq
def eGPortPlan (x : GPortPlan) : List Value := [.int .i64 x.Kind, .int .i64 x.Size, .int .i64 x.Depth, .int .i64 x.Refresh]
theorem eGPortPlan_len (x : GPortPlan) : (eGPortPlan x).length = 4 := by simp [eGPortPlan]
theorem eGPortPlan_one (x : GPortPlan) : ∀ u ∈ eGPortPlan x, u.oneCell' = true := by
  intro u hu
  simp only [eGPortPlan, List.mem_append, List.mem_cons, List.mem_map, List.not_mem_nil, or_false] at hu
  rcases hu with rfl | rfl | rfl | rfl <;> rfl
structure GPlan where
  Id : Int
  Mobile : Bool
  Pages : List GPagePlan
  Procs : List GProcPlan
  Ports : List GPortPlan
  Events : Int
  Sems : List Int
  deriving DecidableEq
def RGPlan (w : World) (cs : List Value) (x : GPlan) : Prop := ∃ v0 v1 v2 v3, cs = [.int .i64 x.Id, .bool x.Mobile, v0, v1, v2, .int .i64 x.Events, v3] ∧ SlR w 2 (Flat eGPagePlan) v0 x.Pages ∧ SlR w 3 (Flat eGProcPlan) v1 x.Procs ∧ SlR w 4 (Flat eGPortPlan) v2 x.Ports ∧ SlR w 1 (Flat eI) v3 x.Sems
theorem RGPlan.mono : Mono RGPlan := by
  intro w w' cs x e h
  obtain ⟨v0, v1, v2, v3, rfl, h0, h1, h2, h3⟩ := h
  exact ⟨v0, v1, v2, v3, rfl, h0.agr (Flat.mono _) e, h1.agr (Flat.mono _) e, h2.agr (Flat.mono _) e, h3.agr (Flat.mono _) e⟩
noncomputable def g_plan_checkPages_L1 (a0 : GPlan) : Nat → Option (Nat ⊕ (Unit ⊕ ErrM)) := fun i28 => (bif decide (i28 < a0.Pages.length) then (a0.Pages[i28]?).bind fun x32 => (bif (decide (x32.Rights < 0) || decide (7 < x32.Rights)) then (g_plan_at ((i28 : Nat) : Int) (.v gRange)).bind fun r39 => some (.inr (.inr r39)) else (bif decide (64 < x32.Init.size) then (g_plan_at ((i28 : Nat) : Int) (.v gLength)).bind fun r46 => some (.inr (.inr r46)) else some (.inl (i28 + 1)))) else some (.inr (.inl ())))
noncomputable def g_plan_checkPages (a0 : GPlan) : Option ErrM := (bif (decide (a0.Pages.length < 1) || decide (32 < a0.Pages.length)) then some (.v gSize) else (iter (g_plan_checkPages_L1 a0) 0).bind (fun q => match q with | .inl _ => some .nil | .inr p => some p))
noncomputable def g_plan_checkProcs_J6 (i28 : Nat) : Bool → Option (Nat ⊕ (Unit ⊕ ErrM)) := fun q539 => (bif q539 then (g_plan_at ((i28 : Nat) : Int) (.v gRange)).bind fun r547 => some (.inr (.inr r547)) else some (.inl (i28 + 1)))
noncomputable def g_plan_checkProcs_L7 (a0 : GPlan) : Nat → Option (Nat ⊕ (Unit ⊕ ErrM)) := fun i28 => (bif decide (i28 < a0.Procs.length) then (a0.Procs[i28]?).bind fun x32 => (((bif decide (x32.Entry < 0) then some true else (bif decide ((IntKind.i64.wrap (64 * ((a0.Pages.length : Nat) : Int))) ≤ x32.Entry) then some true else (bif (!decide ((Int.tmod x32.Entry 4) = 0)) then some true else (bif decide (x32.Prio < 0) then some true else some (decide (255 < x32.Prio))))))) : Option Bool).bind (fun p => (g_plan_checkProcs_J6 i28) p) else some (.inr (.inl ())))
noncomputable def g_plan_checkProcs (a0 : GPlan) : Option ErrM := (bif (decide (a0.Procs.length < 1) || decide (8 < a0.Procs.length)) then some (.v gSize) else (iter (g_plan_checkProcs_L7 a0) 0).bind (fun q => match q with | .inl _ => some .nil | .inr p => some p))
noncomputable def g_port_isQueue (a0 : GPortPlan) : Option Bool := some (decide (a0.Kind = 3) || decide (a0.Kind = 4))
noncomputable def g_port_isIn (a0 : GPortPlan) : Option Bool := some (decide (a0.Kind = 1) || decide (a0.Kind = 3))
noncomputable def g_port_isOut (a0 : GPortPlan) : Option Bool := some (decide (a0.Kind = 2) || decide (a0.Kind = 4))
noncomputable def g_port_CheckPlan_J1 (a0 : GPortPlan) (i525 : Nat) (i1033 : Nat) : Bool → Option ErrM := fun q1537 => (bif q1537 then some (.v gKind) else (bif (decide (a0.Size < 1) || decide (32 < a0.Size)) then some (.v gSize) else (bif (((decide (a0.Depth < 1) || decide (((i525 : Nat) : Int) < a0.Depth)) || decide (a0.Refresh < 0)) || decide (((i1033 : Nat) : Int) < a0.Refresh)) then some (.v gRange) else some .nil)))
noncomputable def g_port_CheckPlan_J2 (a0 : GPortPlan) (i525 : Nat) : Nat → Option ErrM := fun i1033 => (((g_port_isIn a0).bind fun r1538 => (bif (!r1538) then (g_port_isOut a0).bind fun r1543 => some (!r1543) else some false)) : Option Bool).bind (fun p => (g_port_CheckPlan_J1 a0 i525 i1033) p)
noncomputable def g_port_CheckPlan_J3 (a0 : GPortPlan) : Nat → Option ErrM := fun i525 => (((bif decide (a0.Kind = 1) then some 255 else some 0)) : Option Nat).bind (fun p => (g_port_CheckPlan_J2 a0 i525) p)
noncomputable def g_port_CheckPlan (a0 : GPortPlan) : Option ErrM := (((g_port_isQueue a0).bind fun r526 => (bif r526 then some 8 else some 1)) : Option Nat).bind (fun p => (g_port_CheckPlan_J3 a0) p)
noncomputable def g_port_Most (a0 : GPortPlan) : Option (Int × ErrM) := (g_port_CheckPlan a0).bind fun r24 => (bif (!decide (r24 = .nil)) then some (0, (.v gPlan)) else (g_port_isOut a0).bind fun r34 => (bif r34 then some (2, .nil) else some ((IntKind.i64.wrap (2 + (IntKind.i64.wrap (a0.Depth * (IntKind.i64.wrap (1 + a0.Size)))))), .nil)))
noncomputable def g_plan_bound_L1 (a0 : GPlan) : (Int × Nat) → Option ((Int × Nat) ⊕ Int) := fun (z29, i30) => (bif decide (i30 < a0.Ports.length) then (a0.Ports[i30]?).bind fun x34 => (g_port_Most x34).bind fun r40 => some (.inl ((IntKind.i64.wrap (z29 + (IntKind.i64.wrap (3 + r40.1)))), i30 + 1)) else some (.inr z29))
noncomputable def g_plan_bound (a0 : GPlan) : Option Int := (iter (g_plan_bound_L1 a0) ((IntKind.i64.wrap ((IntKind.i64.wrap ((IntKind.i64.wrap ((IntKind.i64.wrap (58 + (IntKind.i64.wrap (76 * ((a0.Procs.length : Nat) : Int))))) + (IntKind.i64.wrap (68 * ((a0.Pages.length : Nat) : Int))))) + a0.Events)) + ((a0.Sems.length : Nat) : Int))), 0)).bind (fun z29 => some z29)
noncomputable def g_plan_checkRest_L1 (a0 : GPlan) : Nat → Option (Nat ⊕ (Unit ⊕ ErrM)) := fun i57 => (bif decide (i57 < a0.Sems.length) then (a0.Sems[i57]?).bind fun x61 => (bif (decide (x61 < 0) || decide (255 < x61)) then (g_plan_at ((i57 : Nat) : Int) (.v gRange)).bind fun r63 => some (.inr (.inr r63)) else some (.inl (i57 + 1))) else some (.inr (.inl ())))
noncomputable def g_plan_checkRest_L2 (a0 : GPlan) : Nat → Option (Nat ⊕ (Unit ⊕ ErrM)) := fun i28 => (bif decide (i28 < a0.Ports.length) then (a0.Ports[i28]?).bind fun x32 => (g_port_CheckPlan x32).bind fun r38 => (bif (!decide (r38 = .nil)) then (g_plan_at ((i28 : Nat) : Int) r38).bind fun r45 => some (.inr (.inr r45)) else some (.inl (i28 + 1))) else some (.inr (.inl ())))
noncomputable def g_plan_checkRest (a0 : GPlan) : Option ErrM := (bif decide (8 < a0.Ports.length) then some (.v gSize) else (iter (g_plan_checkRest_L2 a0) 0).bind (fun q => match q with | .inl _ => (bif (decide (a0.Events < 0) || decide (8 < a0.Events)) then some (.v gRange) else (bif decide (8 < a0.Sems.length) then some (.v gSize) else (iter (g_plan_checkRest_L1 a0) 0).bind (fun q => match q with | .inl _ => (g_plan_bound a0).bind fun r69 => (bif decide (4096 < r69) then some (.v gSize) else some .nil) | .inr p => some p))) | .inr p => some p))
noncomputable def g_plan_Check (a0 : GPlan) : Option ErrM := (bif (decide (a0.Id < 0) || decide (2147483647 < a0.Id)) then some (.v gRange) else (g_plan_checkPages a0).bind fun r30 => (bif (!decide (r30 = .nil)) then some r30 else (g_plan_checkProcs a0).bind fun r38 => (bif (!decide (r38 = .nil)) then some r38 else (g_plan_checkRest a0).bind fun r46 => (bif (!decide (r46 = .nil)) then some r46 else some .nil))))
noncomputable def g_valid_between (a0 : Int) (a1 : Int) (a2 : Int) : Option Bool := some (decide (a1 ≤ a0) && decide (a0 ≤ a2))
structure GProc where
  Regs : Vector Int 16
  Pc : Int
  State : Int
  Prio : Int
  Wait : Int
  Obj : Int
  deriving DecidableEq
def eGProc (x : GProc) : List Value := x.Regs.toList.map (Value.int .u32) ++ [.int .u32 x.Pc, .int .i64 x.State, .int .i64 x.Prio, .int .i64 x.Wait, .int .i64 x.Obj]
theorem eGProc_len (x : GProc) : (eGProc x).length = 21 := by simp [eGProc]
theorem eGProc_one (x : GProc) : ∀ u ∈ eGProc x, u.oneCell' = true := by
  intro u hu
  simp only [eGProc, List.mem_append, List.mem_cons, List.mem_map, List.not_mem_nil, or_false] at hu
  rcases hu with (⟨_, _, rfl⟩) | (rfl | rfl | rfl | rfl | rfl) <;> rfl
structure GTimer where
  Proc : Int
  Due : Int
  deriving DecidableEq
def eGTimer (x : GTimer) : List Value := [.int .i64 x.Proc, .int .i64 x.Due]
theorem eGTimer_len (x : GTimer) : (eGTimer x).length = 2 := by simp [eGTimer]
theorem eGTimer_one (x : GTimer) : ∀ u ∈ eGTimer x, u.oneCell' = true := by
  intro u hu
  simp only [eGTimer, List.mem_append, List.mem_cons, List.mem_map, List.not_mem_nil, or_false] at hu
  rcases hu with rfl | rfl <;> rfl
structure GPort where
  Msgs : List ByteArray
  Age : Int
  deriving DecidableEq
def RGPort (w : World) (cs : List Value) (x : GPort) : Prop := ∃ v0, cs = [v0, .int .i64 x.Age] ∧ SlR w 1 (Flat eS) v0 x.Msgs
theorem RGPort.mono : Mono RGPort := by
  intro w w' cs x e h
  obtain ⟨v0, rfl, h0⟩ := h
  exact ⟨v0, rfl, h0.agr (Flat.mono _) e⟩
structure GPage where
  Rights : Int
  Dirty : Bool
  Data : Vector UInt8 64
  deriving DecidableEq
def eGPage (x : GPage) : List Value := [.int .i64 x.Rights, .bool x.Dirty] ++ x.Data.toList.map (fun b : UInt8 => Value.int .u8 (b.toNat : Int))
theorem eGPage_len (x : GPage) : (eGPage x).length = 66 := by simp [eGPage]
theorem eGPage_one (x : GPage) : ∀ u ∈ eGPage x, u.oneCell' = true := by
  intro u hu
  simp only [eGPage, List.mem_append, List.mem_cons, List.mem_map, List.not_mem_nil, or_false] at hu
  rcases hu with (rfl | rfl) | (⟨_, _, rfl⟩) <;> rfl
structure GState where
  Id : Int
  Frame : Int
  Epoch : Int
  Procs : List GProc
  Ready : List Int
  Timers : List GTimer
  Up : List Bool
  Sems : List Int
  Ports : List GPort
  Pages : List GPage
  deriving DecidableEq
def RGState (w : World) (cs : List Value) (x : GState) : Prop := ∃ v0 v1 v2 v3 v4 v5 v6, cs = [.int .i64 x.Id, .int .i64 x.Frame, .int .i64 x.Epoch, v0, v1, v2, v3, v4, v5, v6] ∧ SlR w 21 (Flat eGProc) v0 x.Procs ∧ SlR w 1 (Flat eI) v1 x.Ready ∧ SlR w 2 (Flat eGTimer) v2 x.Timers ∧ SlR w 1 (Flat eF) v3 x.Up ∧ SlR w 1 (Flat eI) v4 x.Sems ∧ SlR w 2 RGPort v5 x.Ports ∧ SlR w 66 (Flat eGPage) v6 x.Pages
theorem RGState.mono : Mono RGState := by
  intro w w' cs x e h
  obtain ⟨v0, v1, v2, v3, v4, v5, v6, rfl, h0, h1, h2, h3, h4, h5, h6⟩ := h
  exact ⟨v0, v1, v2, v3, v4, v5, v6, rfl, h0.agr (Flat.mono _) e, h1.agr (Flat.mono _) e, h2.agr (Flat.mono _) e, h3.agr (Flat.mono _) e, h4.agr (Flat.mono _) e, h5.agr RGPort.mono e, h6.agr (Flat.mono _) e⟩
structure GValidAsked where
  p_ : GPlan
  s_ : GState
  deriving DecidableEq
def RGValidAsked (w : World) (cs : List Value) (x : GValidAsked) : Prop := ∃ v0 v1 v2 v3 v4 v5 v6 v7 v8 v9 v10, cs = [.int .i64 x.p_.Id, .bool x.p_.Mobile, v0, v1, v2, .int .i64 x.p_.Events, v3, .int .i64 x.s_.Id, .int .i64 x.s_.Frame, .int .i64 x.s_.Epoch, v4, v5, v6, v7, v8, v9, v10] ∧ SlR w 2 (Flat eGPagePlan) v0 x.p_.Pages ∧ SlR w 3 (Flat eGProcPlan) v1 x.p_.Procs ∧ SlR w 4 (Flat eGPortPlan) v2 x.p_.Ports ∧ SlR w 1 (Flat eI) v3 x.p_.Sems ∧ SlR w 21 (Flat eGProc) v4 x.s_.Procs ∧ SlR w 1 (Flat eI) v5 x.s_.Ready ∧ SlR w 2 (Flat eGTimer) v6 x.s_.Timers ∧ SlR w 1 (Flat eF) v7 x.s_.Up ∧ SlR w 1 (Flat eI) v8 x.s_.Sems ∧ SlR w 2 RGPort v9 x.s_.Ports ∧ SlR w 66 (Flat eGPage) v10 x.s_.Pages
theorem RGValidAsked.mono : Mono RGValidAsked := by
  intro w w' cs x e h
  obtain ⟨v0, v1, v2, v3, v4, v5, v6, v7, v8, v9, v10, rfl, h0, h1, h2, h3, h4, h5, h6, h7, h8, h9, h10⟩ := h
  exact ⟨v0, v1, v2, v3, v4, v5, v6, v7, v8, v9, v10, rfl, h0.agr (Flat.mono _) e, h1.agr (Flat.mono _) e, h2.agr (Flat.mono _) e, h3.agr (Flat.mono _) e, h4.agr (Flat.mono _) e, h5.agr (Flat.mono _) e, h6.agr (Flat.mono _) e, h7.agr (Flat.mono _) e, h8.agr (Flat.mono _) e, h9.agr RGPort.mono e, h10.agr (Flat.mono _) e⟩
noncomputable def g_valid_asked_procs_L1 (a0 : GValidAsked) (a1 : GProc → Option Bool) : Nat → Option (Nat ⊕ (Unit ⊕ Bool)) := fun i26 => (bif decide (i26 < a0.s_.Procs.length) then (a0.s_.Procs[i26]?).bind fun x30 => (a1 x30).bind fun r36 => (bif (!r36) then some (.inr (.inr false)) else some (.inl (i26 + 1))) else some (.inr (.inl ())))
noncomputable def g_valid_asked_procs (a0 : GValidAsked) (a1 : GProc → Option Bool) : Option Bool := (iter (g_valid_asked_procs_L1 a0 a1) 0).bind (fun q => match q with | .inl _ => some true | .inr p => some p)
noncomputable def g_valid_numbers (a0 : GProc) : Option Bool := (rdV a0.Regs 0).bind fun x24 => (bif decide (x24 = 0) then (g_valid_between a0.State 0 3).bind fun r26 => (bif r26 then (g_valid_between a0.Prio 0 255).bind fun r31 => (bif r31 then (g_valid_between a0.Wait 0 4).bind fun r36 => some r36 else some false) else some false) else some false)
noncomputable def g_valid_asked_rules_1 (a0 : GProc) : Option Bool := some ((!decide (a0.Wait = 0)) == decide (a0.State = 2))
noncomputable def g_valid_within (a0 : Int) (a1 : Int) : Option Bool := some (decide (0 ≤ a0) && decide (a0 < a1))
noncomputable def g_valid_asked_object (a0 : GValidAsked) (a1 : GProc) : Option Bool := (bif decide (a1.Wait = 2) then (g_valid_within a1.Obj a0.p_.Events).bind fun r28 => some r28 else (bif decide (a1.Wait = 3) then (g_valid_within a1.Obj ((a0.p_.Sems.length : Nat) : Int)).bind fun r34 => some r34 else (bif decide (a1.Wait = 4) then (g_valid_within a1.Obj ((a0.p_.Ports.length : Nat) : Int)).bind fun r40 => (bif r40 then (rdI a0.p_.Ports a1.Obj).bind fun x45 => (bif decide (x45.Kind = 3) then some true else (rdI a0.p_.Ports a1.Obj).bind fun x47 => some (decide (x47.Kind = 4))) else some false) else some (decide (a1.Obj = 0)))))
noncomputable def g_valid_asked_queue_J12 (l30 : List Int) (i32 : Nat) (x36 : Int) : Bool → Option ((List Int × Nat) ⊕ ((List Int) ⊕ Bool)) := fun q538 => (bif q538 then some (.inr (.inr false)) else some (.inl ((addK l30 x36), i32 + 1)))
noncomputable def g_valid_asked_queue_J18 (i553 : Nat) : Bool → Option (Nat ⊕ (Unit ⊕ Bool)) := fun q1064 => (bif q1064 then some (.inr (.inr false)) else some (.inl (i553 + 1)))
noncomputable def g_valid_asked_queue_L19 (a0 : GValidAsked) (l30 : List Int) : Nat → Option (Nat ⊕ (Unit ⊕ Bool)) := fun i553 => (bif decide (i553 < a0.s_.Procs.length) then (a0.s_.Procs[i553]?).bind fun x557 => (((bif decide (x557.State = 1) then some (!(decide (((i553 : Nat) : Int) ∈ l30))) else some false)) : Option Bool).bind (fun p => (g_valid_asked_queue_J18 i553) p) else some (.inr (.inl ())))
noncomputable def g_valid_asked_queue_L20 (a0 : GValidAsked) : (List Int × Nat) → Option ((List Int × Nat) ⊕ ((List Int) ⊕ Bool)) := fun (l30, i32) => (bif decide (i32 < a0.s_.Ready.length) then (a0.s_.Ready[i32]?).bind fun x36 => (((g_valid_within x36 ((a0.s_.Procs.length : Nat) : Int)).bind fun r540 => (bif (!r540) then some true else (bif decide (x36 ∈ l30) then some true else (rdI a0.s_.Procs x36).bind fun x546 => some (!decide (x546.State = 1))))) : Option Bool).bind (fun p => (g_valid_asked_queue_J12 l30 i32 x36) p) else some (.inr (.inl l30)))
noncomputable def g_valid_asked_queue (a0 : GValidAsked) : Option Bool := (iter (g_valid_asked_queue_L20 a0) (([] : List Int), 0)).bind (fun q => match q with | .inl l30 => (iter (g_valid_asked_queue_L19 a0 l30) 0).bind (fun q => match q with | .inl _ => some true | .inr p => some p) | .inr p => some p)
noncomputable def g_valid_asked_rise_J17 (a0 : GValidAsked) (l30 : List Int) (i32 : Nat) (x539 : GTimer) : Bool → Option ((List Int) ⊕ Bool) := fun q1046 => (bif q1046 then some (.inr false) else (bif decide (0 < i32) then (rdI a0.s_.Timers (IntKind.i64.wrap (((i32 : Nat) : Int) - 1))).bind fun x1063 => (bif (decide (x539.Due < x1063.Due) || (decide (x1063.Due = x539.Due) && decide (x539.Proc ≤ x1063.Proc))) then some (.inr false) else some (.inl (addK l30 x539.Proc))) else some (.inl (addK l30 x539.Proc))))
noncomputable def g_valid_asked_rise_J18 (i32 : Nat) : (List Int) → Option ((List Int × Nat) ⊕ (Unit ⊕ Bool)) := fun l537 => some (.inl (l537, i32 + 1))
noncomputable def g_valid_asked_rise_L19 (a0 : GValidAsked) : (List Int × Nat) → Option ((List Int × Nat) ⊕ (Unit ⊕ Bool)) := fun (l30, i32) => (bif decide (i32 < a0.s_.Timers.length) then (((a0.s_.Timers[i32]?).bind fun x539 => (((g_valid_within x539.Proc ((a0.s_.Procs.length : Nat) : Int)).bind fun r1048 => (bif (!r1048) then some true else (bif decide (x539.Proc ∈ l30) then some true else (g_valid_between x539.Due 0 1010000).bind fun r1054 => some (!r1054)))) : Option Bool).bind (fun p => (g_valid_asked_rise_J17 a0 l30 i32 x539) p)) : Option ((List Int) ⊕ Bool)).bind (fun q => match q with | .inl p => (g_valid_asked_rise_J18 i32) p | .inr p => some (.inr (.inr p))) else some (.inr (.inl ())))
noncomputable def g_valid_asked_rise (a0 : GValidAsked) : Option Bool := (iter (g_valid_asked_rise_L19 a0) (([] : List Int), 0)).bind (fun q => match q with | .inl _ => some true | .inr p => some p)
noncomputable def g_valid_asked_timed_J12 (l30 : List Int) (i32 : Nat) (x36 : GTimer) : Bool → Option ((List Int × Nat) ⊕ ((List Int) ⊕ Bool)) := fun q543 => (bif q543 then some (.inr (.inr false)) else some (.inl ((addK l30 x36.Proc), i32 + 1)))
noncomputable def g_valid_asked_timed_J18 (i557 : Nat) : Bool → Option (Nat ⊕ (Unit ⊕ Bool)) := fun q1068 => (bif q1068 then some (.inr (.inr false)) else some (.inl (i557 + 1)))
noncomputable def g_valid_asked_timed_L19 (a0 : GValidAsked) (l30 : List Int) : Nat → Option (Nat ⊕ (Unit ⊕ Bool)) := fun i557 => (bif decide (i557 < a0.s_.Procs.length) then (a0.s_.Procs[i557]?).bind fun x561 => (((bif decide (x561.Wait = 1) then some (!(decide (((i557 : Nat) : Int) ∈ l30))) else some false)) : Option Bool).bind (fun p => (g_valid_asked_timed_J18 i557) p) else some (.inr (.inl ())))
noncomputable def g_valid_asked_timed_L20 (a0 : GValidAsked) : (List Int × Nat) → Option ((List Int × Nat) ⊕ ((List Int) ⊕ Bool)) := fun (l30, i32) => (bif decide (i32 < a0.s_.Timers.length) then (a0.s_.Timers[i32]?).bind fun x36 => (((g_valid_within x36.Proc ((a0.s_.Procs.length : Nat) : Int)).bind fun r545 => (bif r545 then (rdI a0.s_.Procs x36.Proc).bind fun x550 => some (!decide (x550.State = 2)) else some false)) : Option Bool).bind (fun p => (g_valid_asked_timed_J12 l30 i32 x36) p) else some (.inr (.inl l30)))
noncomputable def g_valid_asked_timed (a0 : GValidAsked) : Option Bool := (iter (g_valid_asked_timed_L20 a0) (([] : List Int), 0)).bind (fun q => match q with | .inl l30 => (iter (g_valid_asked_timed_L19 a0 l30) 0).bind (fun q => match q with | .inl _ => some true | .inr p => some p) | .inr p => some p)
noncomputable def g_slices_IndexFunc_int_L1 (a0 : List Int) (a1 : Int → Option Bool) : Nat → Option (Nat ⊕ (Unit ⊕ Int)) := fun i23 => (bif decide (i23 < a0.length) then (a0[i23]?).bind fun x27 => (a1 x27).bind fun r28 => (bif r28 then some (.inr (.inr ((i23 : Nat) : Int))) else some (.inl (i23 + 1))) else some (.inr (.inl ())))
noncomputable def g_slices_IndexFunc_int (a0 : List Int) (a1 : Int → Option Bool) : Option Int := (iter (g_slices_IndexFunc_int_L1 a0 a1) 0).bind (fun q => match q with | .inl _ => some (-1) | .inr p => some p)
noncomputable def g_slices_ContainsFunc_int (a0 : List Int) (a1 : Int → Option Bool) : Option Bool := (g_slices_IndexFunc_int a0 a1).bind fun r21 => some (decide (0 ≤ r21))
noncomputable def g_valid_asked_rules_2 (a0 : Int) : Option Bool := (g_valid_between a0 0 255).bind fun r21 => some (!r21)
noncomputable def g_valid_asked_ports_L1 (a0 : GValidAsked) (a1 : GPortPlan → GPort → Option Bool) : Int → Option (Int ⊕ (Unit ⊕ Bool)) := fun z28 => (bif decide (z28 < (if ((a0.s_.Ports.length : Nat) : Int) < ((a0.p_.Ports.length : Nat) : Int) then ((a0.s_.Ports.length : Nat) : Int) else ((a0.p_.Ports.length : Nat) : Int))) then (rdI a0.p_.Ports z28).bind fun x34 => (rdI a0.s_.Ports z28).bind fun x35 => (a1 x34 x35).bind fun r36 => (bif (!r36) then some (.inr (.inr false)) else some (.inl (IntKind.i64.wrap (z28 + 1)))) else some (.inr (.inl ())))
noncomputable def g_valid_asked_ports (a0 : GValidAsked) (a1 : GPortPlan → GPort → Option Bool) : Option Bool := (iter (g_valid_asked_ports_L1 a0 a1) 0).bind (fun q => match q with | .inl _ => some true | .inr p => some p)
noncomputable def g_slices_IndexFunc_string_L1 (a0 : List ByteArray) (a1 : ByteArray → Option Bool) : Nat → Option (Nat ⊕ (Unit ⊕ Int)) := fun i23 => (bif decide (i23 < a0.length) then (a0[i23]?).bind fun x27 => (a1 x27).bind fun r28 => (bif r28 then some (.inr (.inr ((i23 : Nat) : Int))) else some (.inl (i23 + 1))) else some (.inr (.inl ())))
noncomputable def g_slices_IndexFunc_string (a0 : List ByteArray) (a1 : ByteArray → Option Bool) : Option Int := (iter (g_slices_IndexFunc_string_L1 a0 a1) 0).bind (fun q => match q with | .inl _ => some (-1) | .inr p => some p)
noncomputable def g_slices_ContainsFunc_string (a0 : List ByteArray) (a1 : ByteArray → Option Bool) : Option Bool := (g_slices_IndexFunc_string a0 a1).bind fun r21 => some (decide (0 ≤ r21))
noncomputable def g_valid_asked_rules_3_1 (a0 : ByteArray) (a1 : GPortPlan) : Option Bool := some (decide (a1.Size < ((a0.size : Nat) : Int)))
noncomputable def g_valid_asked_rules_3 (a0 : GPortPlan) (a1 : GPort) : Option Bool := (bif decide (((a1.Msgs.length : Nat) : Int) ≤ a0.Depth) then (g_slices_ContainsFunc_string a1.Msgs (fun x0 => g_valid_asked_rules_3_1 x0 a0)).bind fun r29 => some (!r29) else some false)
noncomputable def g_valid_asked_rules_4 (a0 : GPortPlan) (a1 : GPort) : Option Bool := (g_valid_between a1.Age 0 255).bind fun r27 => (bif r27 then (bif decide (a1.Age = 0) then some true else (bif decide (a0.Kind = 1) then some (decide (0 < a1.Msgs.length)) else some false)) else some false)
noncomputable def g_valid_asked_rights_L1 (a0 : GValidAsked) : Int → Option (Int ⊕ (Unit ⊕ Bool)) := fun z28 => (bif decide (z28 < (if ((a0.s_.Pages.length : Nat) : Int) < ((a0.p_.Pages.length : Nat) : Int) then ((a0.s_.Pages.length : Nat) : Int) else ((a0.p_.Pages.length : Nat) : Int))) then (rdI a0.p_.Pages z28).bind fun x31 => (rdI a0.s_.Pages z28).bind fun x32 => (bif (!decide (x31.Rights = x32.Rights)) then some (.inr (.inr false)) else some (.inl (IntKind.i64.wrap (z28 + 1)))) else some (.inr (.inl ())))
noncomputable def g_valid_asked_rights (a0 : GValidAsked) : Option Bool := (iter (g_valid_asked_rights_L1 a0) 0).bind (fun q => match q with | .inl _ => some true | .inr p => some p)
noncomputable def g_valid_asked_rules_5 (a0 : GProc) (a1 : GState) (a2 : GPlan) : Option Bool := (bif (!decide (a0.Wait = 2)) then some true else (g_valid_within a0.Obj (if a2.Events < ((a1.Up.length : Nat) : Int) then a2.Events else ((a1.Up.length : Nat) : Int))).bind fun r26 => (bif (!r26) then some true else (rdI a1.Up a0.Obj).bind fun x31 => some (!x31)))
noncomputable def g_valid_asked_rules_6 (a0 : GProc) (a1 : GState) (a2 : GPlan) : Option Bool := (bif (!decide (a0.Wait = 3)) then some true else (g_valid_within a0.Obj (if ((a2.Sems.length : Nat) : Int) < ((a1.Sems.length : Nat) : Int) then ((a2.Sems.length : Nat) : Int) else ((a1.Sems.length : Nat) : Int))).bind fun r27 => (bif (!r27) then some true else (rdI a1.Sems a0.Obj).bind fun x32 => some (decide (x32 = 0))))
noncomputable def g_valid_asked_queued_J2 : (GPortPlan × List ByteArray × Int) → Option Bool := fun (t1039, l1040, z1043) => (bif decide (t1039.Kind = 3) then some (decide (l1040.length = 0)) else (bif decide (t1039.Kind = 4) then some (decide (((l1040.length : Nat) : Int) = t1039.Depth)) else some true))
noncomputable def g_valid_asked_queued_J3 (a0 : GValidAsked) (a1 : GProc) : Bool → Option Bool := fun q528 => (bif q528 then some true else (((rdI a0.p_.Ports a1.Obj).bind fun x1050 => (rdI a0.s_.Ports a1.Obj).bind fun x1052 => some (x1050, x1052.Msgs, x1052.Age)) : Option (GPortPlan × List ByteArray × Int)).bind (fun p => g_valid_asked_queued_J2 p))
noncomputable def g_valid_asked_queued (a0 : GValidAsked) (a1 : GProc) : Option Bool := (((bif (!decide (a1.Wait = 4)) then some true else (g_valid_within a1.Obj (if ((a0.s_.Ports.length : Nat) : Int) < ((a0.p_.Ports.length : Nat) : Int) then ((a0.s_.Ports.length : Nat) : Int) else ((a0.p_.Ports.length : Nat) : Int))).bind fun r532 => some (!r532))) : Option Bool).bind (fun p => (g_valid_asked_queued_J3 a0 a1) p)
noncomputable def g_valid_isOut (a0 : GPortPlan) : Option Bool := some (decide (a0.Kind = 2) || decide (a0.Kind = 4))
noncomputable def g_valid_asked_rules_7 (a0 : GPortPlan) (a1 : GPort) : Option Bool := (g_valid_isOut a0).bind fun r27 => (bif (!r27) then some true else some (decide (a1.Msgs.length = 0)))
noncomputable def g_valid_asked_rules_J1 (a0 : GValidAsked) : Unit → Option (Vector Bool 17) := fun _ => (g_valid_between a0.s_.Frame 0 2147483647).bind fun r559 => ((bif r559 then (g_valid_between a0.s_.Epoch 0 2147483647).bind fun r567 => some r567 else some false : Option Bool).bind fun q563 => ((bif decide (a0.s_.Procs.length = a0.p_.Procs.length) then some (decide (a0.s_.Ports.length = a0.p_.Ports.length)) else some false : Option Bool).bind fun q571 => ((bif q571 then some (decide (a0.s_.Pages.length = a0.p_.Pages.length)) else some false : Option Bool).bind fun q577 => ((bif q577 then some (decide (((a0.s_.Up.length : Nat) : Int) = a0.p_.Events)) else some false : Option Bool).bind fun q583 => ((bif q583 then some (decide (a0.s_.Sems.length = a0.p_.Sems.length)) else some false : Option Bool).bind fun q588 => (g_valid_asked_procs a0 (fun x0 => g_valid_numbers x0)).bind fun r594 => (g_valid_asked_procs a0 (fun x0 => g_valid_asked_rules_1 x0)).bind fun r598 => (g_valid_asked_procs a0 (fun x0 => g_valid_asked_object a0 x0)).bind fun r602 => (g_valid_asked_queue a0).bind fun r606 => (g_valid_asked_rise a0).bind fun r610 => (g_valid_asked_timed a0).bind fun r614 => (g_slices_ContainsFunc_int a0.s_.Sems (fun x0 => g_valid_asked_rules_2 x0)).bind fun r618 => (g_valid_asked_ports a0 (fun x0 x1 => g_valid_asked_rules_3 x0 x1)).bind fun r622 => (g_valid_asked_ports a0 (fun x0 x1 => g_valid_asked_rules_4 x0 x1)).bind fun r626 => (g_valid_asked_rights a0).bind fun r630 => (g_valid_asked_procs a0 (fun x0 => g_valid_asked_rules_5 x0 a0.s_ a0.p_)).bind fun r634 => (g_valid_asked_procs a0 (fun x0 => g_valid_asked_rules_6 x0 a0.s_ a0.p_)).bind fun r638 => (g_valid_asked_procs a0 (fun x0 => g_valid_asked_queued a0 x0)).bind fun r642 => (g_valid_asked_ports a0 (fun x0 x1 => g_valid_asked_rules_7 x0 x1)).bind fun r646 => some (#v[decide (a0.s_.Id = a0.p_.Id), q563, q588, r594, r598, r602, r606, r610, r614, (!r618), r622, r626, r630, r634, r638, r642, r646]))))))
noncomputable def g_valid_asked_rules (a0 : GValidAsked) : Option (Vector Bool 17) := ((some ()) : Option Unit).bind (fun p => (g_valid_asked_rules_J1 a0) p)
noncomputable def g_valid_Faults_J3 (i46 : Nat) : (List Int) → Option ((List Int × Nat) ⊕ (List Int)) := fun l552 => some (.inl (l552, i46 + 1))
noncomputable def g_valid_Faults_L4 (r38 : Vector Bool 17) : (List Int × Nat) → Option ((List Int × Nat) ⊕ (List Int)) := fun (l43, i46) => (bif decide (i46 < 17) then (((rdV r38 ((i46 : Nat) : Int)).bind fun x555 => (bif (!x555) then chk ((l43.length + [((i46 + 1 : Nat) : Int)].length) * 8 ≤ 140737488355328) (some (l43 ++ [((i46 + 1 : Nat) : Int)])) else some l43)) : Option (List Int)).bind (fun p => (g_valid_Faults_J3 i46) p) else some (.inr l43))
noncomputable def g_valid_Faults (a0 : GPlan) (a1 : GState) : Option (List Int) := (g_plan_Check a0).bind fun r27 => (bif (!decide (r27 = .nil)) then some [0] else (g_valid_asked_rules (⟨a0, a1⟩ : GValidAsked)).bind fun r38 => (iter (g_valid_Faults_L4 r38) (([] : List Int), 0)).bind (fun l43 => some l43))
noncomputable def g_valid_upTo_J2 (r27 : List Int) : Bool → Option ErrM := fun q534 => (bif q534 then some .nil else (r27[0]?).bind fun x542 => (bif decide (x542 = 0) then some (.v gPlan) else (r27[0]?).bind fun x548 => some (.pl x548 gState)))
noncomputable def g_valid_upTo (a0 : GPlan) (a1 : GState) (a2 : Int) : Option ErrM := (g_valid_Faults a0 a1).bind fun r27 => (((bif decide (r27.length = 0) then some true else (r27[0]?).bind fun x537 => some (decide (a2 < x537)))) : Option Bool).bind (fun p => (g_valid_upTo_J2 r27) p)
noncomputable def g_valid_Check (a0 : GPlan) (a1 : GState) : Option ErrM := (g_valid_upTo a0 a1 16).bind fun r27 => some r27
noncomputable def g_valid_Rest (a0 : GPlan) (a1 : GState) : Option ErrM := (g_valid_upTo a0 a1 17).bind fun r27 => some r27
noncomputable def g_law11_ints_L1 (a0 : List Int) (a1 : List Int) : Nat → Option (Nat ⊕ (Unit ⊕ Bool)) := fun i25 => (bif decide (i25 < a0.length) then (a0[i25]?).bind fun x29 => (a1[i25]?).bind fun x30 => (bif (!decide (x29 = x30)) then some (.inr (.inr false)) else some (.inl (i25 + 1))) else some (.inr (.inl ())))
noncomputable def g_law11_ints (a0 : List Int) (a1 : List Int) : Option Bool := (bif (!decide (a0.length = a1.length)) then some false else (iter (g_law11_ints_L1 a0 a1) 0).bind (fun q => match q with | .inl _ => some true | .inr p => some p))
noncomputable def g_law11_some : Option (GPlan × GState) := some ((⟨7, false, [(⟨7, ⟨#[]⟩⟩ : GPagePlan)], [(⟨0, 0, true⟩ : GProcPlan), (⟨0, 0, true⟩ : GProcPlan)], [(⟨3, 4, 2, 0⟩ : GPortPlan)], 2, [0]⟩ : GPlan), (⟨7, 0, 0, [(⟨(Vector.replicate 16 0), 0, 1, 0, 0, 0⟩ : GProc), (⟨(Vector.replicate 16 0), 0, 1, 0, 0, 0⟩ : GProc)], [0, 1], ([] : List GTimer), [false, false], [0], [(⟨([] : List ByteArray), 0⟩ : GPort)], [(⟨7, false, (Vector.replicate 64 0)⟩ : GPage)]⟩ : GState))
noncomputable def g_law11_awake_J2 (r21 : GPlan × GState) : Bool → Option Bool := fun q558 => (bif q558 then some false else (g_valid_Rest r21.1 (⟨8, r21.2.Frame, r21.2.Epoch, r21.2.Procs, r21.2.Ready, r21.2.Timers, r21.2.Up, r21.2.Sems, r21.2.Ports, r21.2.Pages⟩ : GState)).bind fun r577 => (g_valid_Faults r21.1 (⟨8, r21.2.Frame, r21.2.Epoch, r21.2.Procs, r21.2.Ready, r21.2.Timers, r21.2.Up, r21.2.Sems, r21.2.Ports, r21.2.Pages⟩ : GState)).bind fun r583 => (g_law11_ints r583 [1]).bind fun r593 => (bif r593 then (bif decide ((ErrM.code r577) = 9) then some (decide ((ErrM.place r577) = 1)) else some false) else some false))
noncomputable def g_law11_awake : Option Bool := (g_law11_some).bind fun r21 => (((g_valid_Faults r21.1 r21.2).bind fun r559 => (bif (!decide (r559.length = 0)) then some true else (g_valid_Check r21.1 r21.2).bind fun r567 => some (!decide (r567 = .nil)))) : Option Bool).bind (fun p => (g_law11_awake_J2 r21) p)
structure GR10Err where
  Code : Int
  Place : Int
  deriving DecidableEq
def eGR10Err (x : GR10Err) : List Value := [.int .i64 x.Code, .int .i64 x.Place]
theorem eGR10Err_len (x : GR10Err) : (eGR10Err x).length = 2 := by simp [eGR10Err]
theorem eGR10Err_one (x : GR10Err) : ∀ u ∈ eGR10Err x, u.oneCell' = true := by
  intro u hu
  simp only [eGR10Err, List.mem_append, List.mem_cons, List.mem_map, List.not_mem_nil, or_false] at hu
  rcases hu with rfl | rfl <;> rfl
noncomputable def g_r10_bad (a0 : Int) : Option GR10Err := some (⟨a0, (-1)⟩ : GR10Err)
noncomputable def g_r10_none : Option GR10Err := some (⟨0, (-1)⟩ : GR10Err)
noncomputable def g_r10_pages_J12 (a0 : GPlan) (i36 : Nat) : Bool → Option (Nat ⊕ (Unit ⊕ GR10Err)) := fun q541 => (bif q541 then some (.inr (.inr (⟨4, ((i36 : Nat) : Int)⟩ : GR10Err))) else (a0.Pages[i36]?).bind fun x549 => (bif decide (64 < x549.Init.size) then some (.inr (.inr (⟨5, ((i36 : Nat) : Int)⟩ : GR10Err))) else some (.inl (i36 + 1))))
noncomputable def g_r10_pages_L13 (a0 : GPlan) : Nat → Option (Nat ⊕ (Unit ⊕ GR10Err)) := fun i36 => (bif decide (i36 < a0.Pages.length) then (((a0.Pages[i36]?).bind fun x542 => (bif decide (x542.Rights < 0) then some true else (a0.Pages[i36]?).bind fun x544 => some (decide (7 < x544.Rights)))) : Option Bool).bind (fun p => (g_r10_pages_J12 a0 i36) p) else some (.inr (.inl ())))
noncomputable def g_r10_pages (a0 : GPlan) : Option GR10Err := (bif (decide (a0.Pages.length < 1) || decide (32 < a0.Pages.length)) then (g_r10_bad 11).bind fun r29 => some r29 else (iter (g_r10_pages_L13 a0) 0).bind (fun q => match q with | .inl _ => (g_r10_none).bind fun r553 => some r553 | .inr p => some p))
noncomputable def g_r10_procs_J6 (i36 : Nat) : Bool → Option (Nat ⊕ (Unit ⊕ GR10Err)) := fun q547 => (bif q547 then some (.inr (.inr (⟨4, ((i36 : Nat) : Int)⟩ : GR10Err))) else some (.inl (i36 + 1)))
noncomputable def g_r10_procs_L7 (a0 : GPlan) : Nat → Option (Nat ⊕ (Unit ⊕ GR10Err)) := fun i36 => (bif decide (i36 < a0.Procs.length) then (a0.Procs[i36]?).bind fun x40 => (((bif decide (x40.Entry < 0) then some true else (bif (!decide ((Int.tmod x40.Entry 4) = 0)) then some true else (bif decide ((IntKind.i64.wrap (64 * ((a0.Pages.length : Nat) : Int))) ≤ x40.Entry) then some true else (bif decide (x40.Prio < 0) then some true else some (decide (255 < x40.Prio))))))) : Option Bool).bind (fun p => (g_r10_procs_J6 i36) p) else some (.inr (.inl ())))
noncomputable def g_r10_procs (a0 : GPlan) : Option GR10Err := (bif (decide (a0.Procs.length < 1) || decide (8 < a0.Procs.length)) then (g_r10_bad 11).bind fun r29 => some r29 else (iter (g_r10_procs_L7 a0) 0).bind (fun q => match q with | .inl _ => (g_r10_none).bind fun r557 => some r557 | .inr p => some p))
noncomputable def g_r07_CheckPlan (a0 : GPortPlan) : Option Int := (bif (decide (a0.Kind < 1) || decide (4 < a0.Kind)) then some 7 else (bif (decide (a0.Size < 1) || decide (32 < a0.Size)) then some 11 else (bif ((decide (a0.Depth < 1) || decide (8 < a0.Depth)) || ((!(decide (3 ≤ a0.Kind))) && (!decide (a0.Depth = 1)))) then some 4 else (bif ((decide (a0.Refresh < 0) || decide (255 < a0.Refresh)) || ((!decide (a0.Kind = 1)) && (!decide (a0.Refresh = 0)))) then some 4 else some 0))))
noncomputable def g_r10_ports_L1 (a0 : GPlan) : Nat → Option (Nat ⊕ (Unit ⊕ GR10Err)) := fun i36 => (bif decide (i36 < a0.Ports.length) then (a0.Ports[i36]?).bind fun x40 => (g_r07_CheckPlan x40).bind fun r41 => (bif (!decide (r41 = 0)) then some (.inr (.inr (⟨r41, ((i36 : Nat) : Int)⟩ : GR10Err))) else some (.inl (i36 + 1))) else some (.inr (.inl ())))
noncomputable def g_r10_ports (a0 : GPlan) : Option GR10Err := (bif decide (8 < a0.Ports.length) then (g_r10_bad 11).bind fun r29 => some r29 else (iter (g_r10_ports_L1 a0) 0).bind (fun q => match q with | .inl _ => (g_r10_none).bind fun r48 => some r48 | .inr p => some p))
noncomputable def g_r10_things_J6 (i43 : Nat) : Bool → Option (Nat ⊕ (Unit ⊕ GR10Err)) := fun q548 => (bif q548 then some (.inr (.inr (⟨4, ((i43 : Nat) : Int)⟩ : GR10Err))) else some (.inl (i43 + 1)))
noncomputable def g_r10_things_L7 (a0 : GPlan) : Nat → Option (Nat ⊕ (Unit ⊕ GR10Err)) := fun i43 => (bif decide (i43 < a0.Sems.length) then (((a0.Sems[i43]?).bind fun x549 => (bif decide (x549 < 0) then some true else (a0.Sems[i43]?).bind fun x551 => some (decide (255 < x551)))) : Option Bool).bind (fun p => (g_r10_things_J6 i43) p) else some (.inr (.inl ())))
noncomputable def g_r10_things (a0 : GPlan) : Option GR10Err := (bif (decide (a0.Events < 0) || decide (8 < a0.Events)) then (g_r10_bad 4).bind fun r28 => some r28 else (bif decide (8 < a0.Sems.length) then (g_r10_bad 11).bind fun r36 => some r36 else (iter (g_r10_things_L7 a0) 0).bind (fun q => match q with | .inl _ => (g_r10_none).bind fun r556 => some r556 | .inr p => some p)))
noncomputable def g_r07_Most (a0 : GPortPlan) : Option (Int × Int) := (g_r07_CheckPlan a0).bind fun r24 => (bif (!decide (r24 = 0)) then some (0, 8) else (bif decide (a0.Kind = 1) then some ((IntKind.i64.wrap (3 + a0.Size)), 0) else (bif decide (a0.Kind = 3) then some ((IntKind.i64.wrap (2 + (IntKind.i64.wrap (a0.Depth * (IntKind.i64.wrap (1 + a0.Size)))))), 0) else some (2, 0))))
noncomputable def g_r10_bound_L1 (a0 : GPlan) : (Int × Nat) → Option ((Int × Nat) ⊕ Int) := fun (z28, i29) => (bif decide (i29 < a0.Ports.length) then (a0.Ports[i29]?).bind fun x34 => (g_r07_Most x34).bind fun r35 => some (.inl ((IntKind.i64.wrap (z28 + (IntKind.i64.wrap (3 + r35.1)))), i29 + 1)) else some (.inr z28))
noncomputable def g_r10_bound (a0 : GPlan) : Option Int := (iter (g_r10_bound_L1 a0) ((IntKind.i64.wrap ((IntKind.i64.wrap ((IntKind.i64.wrap ((IntKind.i64.wrap (58 + (IntKind.i64.wrap (76 * ((a0.Procs.length : Nat) : Int))))) + (IntKind.i64.wrap (68 * ((a0.Pages.length : Nat) : Int))))) + a0.Events)) + ((a0.Sems.length : Nat) : Int))), 0)).bind (fun z28 => some z28)
noncomputable def g_r10_Check_L1 (r37 : GR10Err) (r41 : GR10Err) (r45 : GR10Err) (r49 : GR10Err) : Nat → Option (Nat ⊕ (Unit ⊕ GR10Err)) := fun i58 => (bif decide (i58 < [r37, r41, r45, r49].length) then ([r37, r41, r45, r49][i58]?).bind fun x63 => (bif (!decide (x63.Code = 0)) then ([r37, r41, r45, r49][i58]?).bind fun x65 => some (.inr (.inr x65)) else some (.inl (i58 + 1))) else some (.inr (.inl ())))
noncomputable def g_r10_Check (a0 : GPlan) : Option GR10Err := (bif (decide (a0.Id < 0) || decide (2147483647 < a0.Id)) then (g_r10_bad 4).bind fun r28 => some r28 else (g_r10_pages a0).bind fun r37 => (g_r10_procs a0).bind fun r41 => (g_r10_ports a0).bind fun r45 => (g_r10_things a0).bind fun r49 => (iter (g_r10_Check_L1 r37 r41 r45 r49) 0).bind (fun q => match q with | .inl _ => (g_r10_bound a0).bind fun r68 => (bif decide (4096 < r68) then (g_r10_bad 11).bind fun r73 => some r73 else (g_r10_none).bind fun r79 => some r79) | .inr p => some p))
noncomputable def g_r10_Good (a0 : GPlan) : Option Bool := (g_r10_Check a0).bind fun r24 => some (decide (r24.Code = 0))
noncomputable def g_slices_Clone_int (a0 : List Int) : Option (List Int) := chk ((([] : List Int).length + a0.length) * 8 ≤ 140737488355328) (some (([] : List Int) ++ a0))
noncomputable def g_plan_Boot_J6 (i873 : Nat) (l874 : List GProc) : (List Int × GProc) → Option ((Nat × List GProc × List Int) ⊕ (List GProc × List Int)) := fun (l1397, t1400) => chk ((l874.length + [t1400].length) * 104 ≤ 140737488355328) (some (.inl (i873 + 1, (l874 ++ [t1400]), l1397)))
noncomputable def g_plan_Boot_L7 (a0 : GPlan) : (Nat × List GPage) → Option ((Nat × List GPage) ⊕ (List GPage)) := fun (i1429, l1430) => (bif decide (i1429 < a0.Pages.length) then (a0.Pages[i1429]?).bind fun x1437 => chk ((l1430.length + [(⟨x1437.Rights, false, (cpyV (Vector.replicate 64 0) x1437.Init)⟩ : GPage)].length) * 80 ≤ 140737488355328) (some (.inl (i1429 + 1, (l1430 ++ [(⟨x1437.Rights, false, (cpyV (Vector.replicate 64 0) x1437.Init)⟩ : GPage)])))) else some (.inr l1430))
noncomputable def g_plan_Boot_L8 (a0 : GPlan) : (Nat × List GProc × List Int) → Option ((Nat × List GProc × List Int) ⊕ (List GProc × List Int)) := fun (i873, l874, l877) => (bif decide (i873 < a0.Procs.length) then (a0.Procs[i873]?).bind fun x885 => (((bif x885.Auto then chk ((l877.length + [((i873 : Nat) : Int)].length) * 8 ≤ 140737488355328) (some ((l877 ++ [((i873 : Nat) : Int)]), (⟨(Vector.replicate 16 0), (IntKind.u32.wrap x885.Entry), 1, x885.Prio, 0, 0⟩ : GProc))) else some (l877, (⟨(Vector.replicate 16 0), (IntKind.u32.wrap x885.Entry), 0, x885.Prio, 0, 0⟩ : GProc)))) : Option (List Int × GProc)).bind (fun p => (g_plan_Boot_J6 i873 l874) p) else some (.inr (l874, l877)))
noncomputable def g_plan_Boot_J9 (a0 : GPlan) : (List Bool × List Int × List GPort) → Option (GState × ErrM) := fun (l548, l551, l554) => (iter (g_plan_Boot_L8 a0) (0, ([] : List GProc), ([] : List Int))).bind (fun (l874, l877) => (iter (g_plan_Boot_L7 a0) (0, ([] : List GPage))).bind (fun l1430 => some ((⟨a0.Id, 0, 0, l874, l877, ([] : List GTimer), l548, l551, l554, l1430⟩ : GState), .nil)))
noncomputable def g_plan_Boot (a0 : GPlan) : Option (GState × ErrM) := (g_plan_Check a0).bind fun r27 => (bif (!decide (r27 = .nil)) then some ((⟨0, 0, 0, ([] : List GProc), ([] : List Int), ([] : List GTimer), ([] : List Bool), ([] : List Int), ([] : List GPort), ([] : List GPage)⟩ : GState), (.v gPlan)) else ((chk (0 ≤ a0.Events) (chk (a0.Events.toNat * 1 ≤ 140737488355328) ((g_slices_Clone_int a0.Sems).bind fun r564 => chk (a0.Ports.length * 32 ≤ 140737488355328) (some ((List.replicate a0.Events.toNat false), r564, (List.replicate a0.Ports.length (⟨([] : List ByteArray), 0⟩ : GPort))))))) : Option (List Bool × List Int × List GPort)).bind (fun p => (g_plan_Boot_J9 a0) p))
noncomputable def g_r11_Copy_L1 (a0 : GState) : (Nat × List GPort) → Option ((Nat × List GPort) ⊕ (List GPort)) := fun (i101, l102) => (bif decide (i101 < a0.Ports.length) then (a0.Ports[i101]?).bind fun x113 => (a0.Ports[i101]?).bind fun x114 => chk ((([] : List ByteArray).length + x113.Msgs.length) * 16 ≤ 140737488355328) (chk ((l102.length + 1) * 32 ≤ 140737488355328) (some (.inl (i101 + 1, (l102 ++ [(⟨(([] : List ByteArray) ++ x113.Msgs), x114.Age⟩ : GPort)]))))) else some (.inr l102))
noncomputable def g_r11_Copy (a0 : GState) : Option GState := chk ((([] : List GProc).length + a0.Procs.length) * 104 ≤ 140737488355328) (chk ((([] : List Int).length + a0.Ready.length) * 8 ≤ 140737488355328) (chk ((([] : List GTimer).length + a0.Timers.length) * 16 ≤ 140737488355328) (chk ((([] : List Bool).length + a0.Up.length) * 1 ≤ 140737488355328) (chk ((([] : List Int).length + a0.Sems.length) * 8 ≤ 140737488355328) (chk ((([] : List GPage).length + a0.Pages.length) * 80 ≤ 140737488355328) ((iter (g_r11_Copy_L1 a0) (0, ([] : List GPort))).bind (fun l102 => some (⟨a0.Id, a0.Frame, a0.Epoch, (([] : List GProc) ++ a0.Procs), (([] : List Int) ++ a0.Ready), (([] : List GTimer) ++ a0.Timers), (([] : List Bool) ++ a0.Up), (([] : List Int) ++ a0.Sems), l102, (([] : List GPage) ++ a0.Pages)⟩ : GState))))))))
noncomputable def g_law11_ValidBoots_J2 (a0 : GPlan) (r34 : GState × ErrM) : Bool → Option Bool := fun q560 => (bif q560 then some false else (g_r11_Copy r34.1).bind fun r578 => (g_valid_Faults a0 (⟨(IntKind.i64.wrap (r578.Id + 1)), r578.Frame, r578.Epoch, r578.Procs, r578.Ready, r578.Timers, r578.Up, r578.Sems, r578.Ports, r578.Pages⟩ : GState)).bind fun r603 => (g_law11_ints r603 [1]).bind fun r613 => (bif (!r613) then some false else (g_r11_Copy r34.1).bind fun r618 => chk ((r618.Procs.length + [(⟨(Vector.replicate 16 0), 0, 0, 0, 0, 0⟩ : GProc)].length) * 104 ≤ 140737488355328) ((g_valid_Faults a0 (⟨r618.Id, r618.Frame, r618.Epoch, (r618.Procs ++ [(⟨(Vector.replicate 16 0), 0, 0, 0, 0, 0⟩ : GProc)]), r618.Ready, r618.Timers, r618.Up, r618.Sems, r618.Ports, r618.Pages⟩ : GState)).bind fun r649 => (g_law11_ints r649 [3]).bind fun r659 => (bif (!r659) then some false else (g_r11_Copy r34.1).bind fun r664 => chk ((r664.Ports.length + 1) * 32 ≤ 140737488355328) ((g_valid_Faults a0 (⟨r664.Id, r664.Frame, r664.Epoch, r664.Procs, r664.Ready, r664.Timers, r664.Up, r664.Sems, (r664.Ports ++ [(⟨([] : List ByteArray), 0⟩ : GPort)]), r664.Pages⟩ : GState)).bind fun r694 => (g_law11_ints r694 [3]).bind fun r704 => (bif (!r704) then some false else (g_r11_Copy r34.1).bind fun r709 => chk (0 ≤ (1 : Int) ∧ (1 : Int) ≤ ((r709.Pages.length : Nat) : Int) ∧ ((r709.Pages.length : Nat) : Int) ≤ ((r709.Pages.length : Nat) : Int)) ((g_valid_Faults a0 (⟨r709.Id, r709.Frame, r709.Epoch, r709.Procs, r709.Ready, r709.Timers, r709.Up, r709.Sems, r709.Ports, ((r709.Pages.drop (1 : Int).toNat).take (((r709.Pages.length : Nat) : Int).toNat - (1 : Int).toNat))⟩ : GState)).bind fun r734 => (bif decide (0 < r734.length) then (r734[0]?).bind fun x742 => some (decide (x742 = 3)) else some false))))))))
noncomputable def g_law11_ValidBoots (a0 : GPlan) : Option Bool := (g_law11_awake).bind fun r24 => (bif (!r24) then some false else (g_r10_Good a0).bind fun r29 => (bif (!r29) then some true else (g_plan_Boot a0).bind fun r34 => (((bif (!decide (r34.2 = .nil)) then some true else (g_valid_Rest a0 r34.1).bind fun r562 => (bif (!decide (r562 = .nil)) then some true else (g_valid_Faults a0 r34.1).bind fun r569 => some (!decide (r569.length = 0))))) : Option Bool).bind (fun p => (g_law11_ValidBoots_J2 a0 r34) p)))
end Go.Proofs.YtjoihegnjjjdaaaDoor
