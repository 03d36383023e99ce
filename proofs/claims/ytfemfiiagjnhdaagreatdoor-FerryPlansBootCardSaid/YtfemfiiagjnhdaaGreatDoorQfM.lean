/- The law FerryPlansBoot: whatever the input, it returns true, and the argument reads behind the call as it read before it; the listed variables are as the text lays them, which the card ties to the text. (written by wip/tools) -/
import Derived.Test.YtfemfiiagjnhdaaGreatDoorQfI
import Derived.Test.YtfemfiiagjnhdaaGreatDoorQfK
import Derived.Test.YtfemfiiagjnhdaaGreatDoorQfL
import Derived.Test.YtfemfiiagjnhdaaGreatDoorQfB
import Derived.Test.YtfemfiiagjnhdaaGreatDoorCards
import Derived.Test.YtfemfiiagjnhdaaGreatDoorTie
import Derived.ChangeSame
import Derived.ChangeVars
import Derived.JoinedOf
import Derived.JoinedCond
import Derived.RowKit
import Derived.RowKitTokens
import Derived.LaidLaws
import Derived.LaidHandle
import Derived.LaidSub
import Derived.Stop.Joined
import Derived.SevenTiedAt
import Derived.Deep.DeepHandedRow
import Derived.OpenShut
set_option linter.unusedVariables false
set_option linter.unusedSimpArgs false
set_option maxRecDepth 10000
namespace Go.Proofs.YtfemfiiagjnhdaaGreatDoor
open Go Go.RowKit
open Go.ChangeShapes Go.WideShapes Go.ChangeAt
theorem by114 : Tryz.prog.bytesOf 114=24:=by kernel_rfl
theorem by116 : Tryz.prog.bytesOf 116=24:=by kernel_rfl
theorem by118 : Tryz.prog.bytesOf 118=32:=by kernel_rfl
theorem by3 : Tryz.prog.bytesOf 3=8:=by kernel_rfl
theorem by5 : Tryz.prog.bytesOf 5=1:=by kernel_rfl
theorem fl114 : Zoe Tryz.prog 114=some [(3,0),(9,1)]:=by kernel_rfl
theorem fl116 : Zoe Tryz.prog 116=some [(3,0),(3,1),(4,2)]:=by kernel_rfl
theorem fl118 : Zoe Tryz.prog 118=some [(3,0),(3,1),(3,2),(3,3)]:=by kernel_rfl
theorem fl27 : Zoe Tryz.prog 27=some [(3,0),(4,1),(22,2),(23,3),(24,4),(3,5),(25,6)]:=by kernel_rfl
def okGPagePlan (x : GPagePlan) : Prop:=inK .i64 x.Rights ∧ x.Init.size ≤ lim ∧ True
theorem rd_GPagePlan {H : Type} {enc : TypeId × Value → H} {w : World} {cs : List Value} (h : Rd enc Tryz.prog w 114 cs) : ∃ x : GPagePlan,Zi Zw w cs x ∧ okGPagePlan x:=by
  obtain⟨hl,hf⟩:=h.struct fl114 Zax
  obtain⟨z0,h0,k0⟩:=(hf 0 3 0 1 rfl sz3).int Tryz.underlying3
  obtain⟨z1,h1,k1⟩:=(hf 1 9 1 1 rfl sz9).string Tryz.underlying9
  have e : cs=(cs.drop 0).take 1 ++ (cs.drop 1).take 1:=by
    match cs,hl with
    | [c0,c1],_=>rfl
  rw [h0,h1] at e
  exact⟨⟨z0,z1⟩,by rw [e];rfl,k0,k1,trivial⟩
def okGProcPlan (x : GProcPlan) : Prop:=inK .i64 x.Entry ∧ inK .i64 x.Prio ∧ True ∧ True
theorem rd_GProcPlan {H : Type} {enc : TypeId × Value → H} {w : World} {cs : List Value} (h : Rd enc Tryz.prog w 116 cs) : ∃ x : GProcPlan,Zi Zs w cs x ∧ okGProcPlan x:=by
  obtain⟨hl,hf⟩:=h.struct fl116 Zay
  obtain⟨z0,h0,k0⟩:=(hf 0 3 0 1 rfl sz3).int Tryz.underlying3
  obtain⟨z1,h1,k1⟩:=(hf 1 3 1 1 rfl sz3).int Tryz.underlying3
  obtain⟨z2,h2⟩:=(hf 2 4 2 1 rfl sz4).bool Tryz.underlying4
  have e : cs=(cs.drop 0).take 1 ++ (cs.drop 1).take 1 ++ (cs.drop 2).take 1:=by
    match cs,hl with
    | [c0,c1,c2],_=>rfl
  rw [h0,h1,h2] at e
  exact⟨⟨z0,z1,z2⟩,by rw [e];rfl,k0,k1,trivial,trivial⟩
def okGPortPlan (x : GPortPlan) : Prop:=inK .i64 x.Kind ∧ inK .i64 x.Size ∧ inK .i64 x.Depth ∧ inK .i64 x.Refresh ∧ True
theorem rd_GPortPlan {H : Type} {enc : TypeId × Value → H} {w : World} {cs : List Value} (h : Rd enc Tryz.prog w 118 cs) : ∃ x : GPortPlan,Zi Zp w cs x ∧ okGPortPlan x:=by
  obtain⟨hl,hf⟩:=h.struct fl118 Gp
  obtain⟨z0,h0,k0⟩:=(hf 0 3 0 1 rfl sz3).int Tryz.underlying3
  obtain⟨z1,h1,k1⟩:=(hf 1 3 1 1 rfl sz3).int Tryz.underlying3
  obtain⟨z2,h2,k2⟩:=(hf 2 3 2 1 rfl sz3).int Tryz.underlying3
  obtain⟨z3,h3,k3⟩:=(hf 3 3 3 1 rfl sz3).int Tryz.underlying3
  have e : cs=(cs.drop 0).take 1 ++ (cs.drop 1).take 1 ++ (cs.drop 2).take 1 ++ (cs.drop 3).take 1:=by
    match cs,hl with
    | [c0,c1,c2,c3],_=>rfl
  rw [h0,h1,h2,h3] at e
  exact⟨⟨z0,z1,z2,z3⟩,by rw [e];rfl,k0,k1,k2,k3,trivial⟩
theorem elR_3 {H : Type} {enc : TypeId × Value → H} {w : World} (ecs : List Value) (h : Rd enc Tryz.prog w 3 ecs) (_ : ecs.length=1) : ∃ x : Int,Zi eI w ecs x ∧ inK .i64 x:=by
  obtain⟨z,rfl,hz⟩:=h.int Tryz.underlying3
  exact⟨z,rfl,hz⟩
def okGPlan (x : GPlan) : Prop:=inK .i64 x.Id ∧ True ∧ (x.Pages.length * 24 ≤ lim ∧ ∀ y0 ∈ x.Pages,okGPagePlan y0) ∧ (x.Procs.length * 24 ≤ lim ∧ ∀ y0 ∈ x.Procs,okGProcPlan y0) ∧ (x.Ports.length * 32 ≤ lim ∧ ∀ y0 ∈ x.Ports,okGPortPlan y0) ∧ inK .i64 x.Events ∧ (x.Sems.length * 8 ≤ lim ∧ ∀ y0 ∈ x.Sems,inK .i64 y0) ∧ True
theorem rd_GPlan {H : Type} {enc : TypeId × Value → H} {w : World} {cs : List Value} (h : Rd enc Tryz.prog w 27 cs) : ∃ x : GPlan,Xa w cs x ∧ okGPlan x:=by
  obtain⟨hl,hf⟩:=h.struct fl27 Zav
  obtain⟨z0,h0,k0⟩:=(hf 0 3 0 1 rfl sz3).int Tryz.underlying3
  obtain⟨z1,h1⟩:=(hf 1 4 1 1 rfl sz4).bool Tryz.underlying4
  obtain⟨v2,z2,h2,s2,k2⟩:=(hf 2 22 2 1 rfl sz22).slice Tryz.underlying22 Zax by114 (fun ecs h _=>rd_GPagePlan h)
  obtain⟨v3,z3,h3,s3,k3⟩:=(hf 3 23 3 1 rfl sz23).slice Tryz.underlying23 Zay by116 (fun ecs h _=>rd_GProcPlan h)
  obtain⟨v4,z4,h4,s4,k4⟩:=(hf 4 24 4 1 rfl sz24).slice Tryz.underlying24 Gp by118 (fun ecs h _=>rd_GPortPlan h)
  obtain⟨z5,h5,k5⟩:=(hf 5 3 5 1 rfl sz3).int Tryz.underlying3
  obtain⟨v6,z6,h6,s6,k6⟩:=(hf 6 25 6 1 rfl sz25).slice Tryz.underlying25 sz3 by3 elR_3
  have e : cs=(cs.drop 0).take 1 ++ (cs.drop 1).take 1 ++ (cs.drop 2).take 1 ++ (cs.drop 3).take 1 ++ (cs.drop 4).take 1 ++ (cs.drop 5).take 1 ++ (cs.drop 6).take 1:=by
    match cs,hl with
    | [c0,c1,c2,c3,c4,c5,c6],_=>rfl
  rw [h0,h1,h2,h3,h4,h5,h6] at e
  exact⟨⟨z0,z1,z2,z3,z4,z5,z6⟩,⟨v2,v3,v4,v6,by rw [e];rfl,s2.r,s3.r,s4.r,s6.r⟩,k0,trivial,⟨s2.b,k2⟩,⟨s3.b,k3⟩,⟨s4.b,k4⟩,k5,⟨s6.b,k6⟩,trivial⟩
theorem elR_byte {H : Type} {enc : TypeId × Value → H} {w : World} (ecs : List Value) (h : Rd enc Tryz.prog w 5 ecs) (_ : ecs.length=1) : ∃ x : UInt8,Zi eB w ecs x ∧ True:=by
  obtain⟨z,rfl,hz⟩:=h.int Tryz.underlying5
  simp only [inK,Lit.wf,Bool.and_eq_true,decide_eq_true_eq] at hz
  have h1 : IntKind.u8.min=0:=by decide
  have h2 : IntKind.u8.max=255:=by decide
  exact⟨Qz z,(Znv (by omega) (by omega)).symm,trivial⟩
theorem okPlan_of {p : GPlan} (h : okGPlan p) : Zna p:=by
  have hm : lim ≤ Zls:=by decide
  obtain⟨_,_,g1,g2,g3,_,g4,_⟩:=h
  exact⟨Nat.le_trans g1.1 hm,Nat.le_trans g2.1 hm,Nat.le_trans g3.1 hm,Nat.le_trans g4.1 hm⟩
theorem okBytes {n : Nat} (h : n * 1 ≤ lim) : n ≤ 140737488355328:=by
  have hm : lim ≤ Zls:=by decide
  have:=Nat.le_trans h hm
  simp only [Zls] at this;omega
theorem Tryz.own : ownKnob Tryz.prog.godebug=none:=by kernel_rfl
theorem Tryz.laidOut : laidOutB Tryz.prog=true:=by kernel_rfl
theorem Tryz.starE : "*" ++ "errors.errorString" = "*errors.errorString" := by decide
theorem Tryz.rowE (u : TypeId) (h : Tryz.prog.typeName? 3 u = some "*errors.errorString") : u = 340 :=
  typeName_ptr_named (nm := "errors.errorString") (by rw [Tryz.starE]; kernel_rfl) (by kernel_rfl) (by decide) u (by rw [Tryz.starE]; exact h)
theorem Tryz.cE : Tryz.prog.cellsOf 361=1:=by kernel_rfl
theorem Tryz.cS : Tryz.prog.cellsOf 9=1:=by kernel_rfl
def specs : List (String × Nat × List UInt8) := [("ferry/api.ErrShort", 5, [116, 104, 101, 32, 98, 121, 116, 101, 115, 32, 101, 110, 100, 32, 116, 111, 111, 32, 101, 97, 114, 108, 121]), ("ferry/api.ErrRest", 8, [115, 111, 109, 101, 116, 104, 105, 110, 103, 32, 105, 115, 32, 108, 101, 102, 116, 32, 111, 118, 101, 114]), ("ferry/api.ErrTag", 9, [97, 110, 111, 116, 104, 101, 114, 32, 116, 97, 103, 32, 105, 115, 32, 119, 97, 110, 116, 101, 100]), ("ferry/api.ErrRange", 10, [97, 32, 110, 117, 109, 98, 101, 114, 32, 111, 117, 116, 32, 111, 102, 32, 105, 116, 115, 32, 114, 97, 110, 103, 101]), ("ferry/api.ErrLength", 7, [97, 32, 108, 101, 110, 103, 116, 104, 32, 116, 104, 97, 116, 32, 105, 115, 110, 39, 116, 32, 116, 104, 101, 32, 116, 104, 105, 110, 103, 39, 115]), ("ferry/api.ErrSum", 11, [116, 104, 101, 32, 99, 104, 101, 99, 107, 32, 115, 117, 109, 32, 105, 115, 32, 119, 114, 111, 110, 103]), ("ferry/api.ErrKind", 6, [110, 111, 32, 115, 117, 99, 104, 32, 107, 105, 110, 100]), ("ferry/api.ErrPlan", 4, [110, 111, 116, 32, 111, 102, 32, 116, 104, 105, 115, 32, 112, 108, 97, 110]), ("ferry/api.ErrState", 3, [116, 104, 101, 32, 115, 116, 97, 116, 101, 32, 98, 114, 101, 97, 107, 115, 32, 97, 32, 114, 117, 108, 101]), ("ferry/api.ErrBase", 0, [110, 111, 116, 32, 111, 118, 101, 114, 32, 116, 104, 105, 115, 32, 98, 97, 115, 101]), ("ferry/api.ErrSize", 12, [116, 111, 111, 32, 108, 97, 114, 103, 101]), ("ferry/api.ErrArg", 2, [97, 32, 119, 114, 111, 110, 103, 32, 97, 114, 103, 117, 109, 101, 110, 116]), ("ferry/api.ErrEnd", 1, [97, 32, 99, 111, 117, 110, 116, 101, 114, 32, 105, 115, 32, 97, 116, 32, 105, 116, 115, 32, 101, 110, 100]), ("ferry/api.ErrBusy", 13, [115, 111, 109, 101, 116, 104, 105, 110, 103, 32, 105, 115, 32, 117, 110, 100, 101, 114, 32, 119, 97, 121]), ("ferry/api.ErrDown", 14, [116, 104, 101, 32, 109, 111, 100, 117, 108, 101, 32, 105, 115, 32, 100, 111, 119, 110]), ("ferry/api.ErrLost", 15, [116, 104, 101, 32, 112, 97, 114, 116, 105, 116, 105, 111, 110, 32, 105, 115, 32, 108, 111, 115, 116]), ("ferry/api.ErrNone", 16, [116, 104, 101, 114, 101, 32, 105, 115, 32, 110, 111, 110, 101]), ("ferry/api.ErrText", 17, [97, 32, 116, 101, 120, 116, 32, 116, 104, 97, 116, 32, 105, 115, 110, 39, 116, 32, 111, 102, 32, 116, 104, 101, 32, 108, 97, 110, 103, 117, 97, 103, 101]), ("ferry/api.ErrStop", 18, [99, 97, 110, 99, 101, 108, 108, 101, 100]), ("ferry/api.ErrDivide", 19, [100, 105, 118, 105, 115, 105, 111, 110, 32, 98, 121, 32, 122, 101, 114, 111])]
def setc (v : Value) : Obj → Obj
  | .cells _ t fr=>.cells #[v] t fr
  | o=>o
noncomputable def lowB : Nat:=(World.holding Tryz.prog default ⟨#[],#[],[]⟩).heap.size
noncomputable def laidWorld (os : Os) : World:=
  let w0:=World.holding Tryz.prog os ⟨#[.cells #[.string ⟨#[116,104,101,32,98,121,116,101,115,32,101,110,100,32,116,111,111,32,101,97,114,108,121]⟩] 361,.cells #[.string ⟨#[115,111,109,101,116,104,105,110,103,32,105,115,32,108,101,102,116,32,111,118,101,114]⟩] 361,.cells #[.string ⟨#[97,110,111,116,104,101,114,32,116,97,103,32,105,115,32,119,97,110,116,101,100]⟩] 361,.cells #[.string ⟨#[97,32,110,117,109,98,101,114,32,111,117,116,32,111,102,32,105,116,115,32,114,97,110,103,101]⟩] 361,.cells #[.string ⟨#[97,32,108,101,110,103,116,104,32,116,104,97,116,32,105,115,110,39,116,32,116,104,101,32,116,104,105,110,103,39,115]⟩] 361,.cells #[.string ⟨#[116,104,101,32,99,104,101,99,107,32,115,117,109,32,105,115,32,119,114,111,110,103]⟩] 361,.cells #[.string ⟨#[110,111,32,115,117,99,104,32,107,105,110,100]⟩] 361,.cells #[.string ⟨#[110,111,116,32,111,102,32,116,104,105,115,32,112,108,97,110]⟩] 361,.cells #[.string ⟨#[116,104,101,32,115,116,97,116,101,32,98,114,101,97,107,115,32,97,32,114,117,108,101]⟩] 361,.cells #[.string ⟨#[110,111,116,32,111,118,101,114,32,116,104,105,115,32,98,97,115,101]⟩] 361,.cells #[.string ⟨#[116,111,111,32,108,97,114,103,101]⟩] 361,.cells #[.string ⟨#[97,32,119,114,111,110,103,32,97,114,103,117,109,101,110,116]⟩] 361,.cells #[.string ⟨#[97,32,99,111,117,110,116,101,114,32,105,115,32,97,116,32,105,116,115,32,101,110,100]⟩] 361,.cells #[.string ⟨#[115,111,109,101,116,104,105,110,103,32,105,115,32,117,110,100,101,114,32,119,97,121]⟩] 361,.cells #[.string ⟨#[116,104,101,32,109,111,100,117,108,101,32,105,115,32,100,111,119,110]⟩] 361,.cells #[.string ⟨#[116,104,101,32,112,97,114,116,105,116,105,111,110,32,105,115,32,108,111,115,116]⟩] 361,.cells #[.string ⟨#[116,104,101,114,101,32,105,115,32,110,111,110,101]⟩] 361,.cells #[.string ⟨#[97,32,116,101,120,116,32,116,104,97,116,32,105,115,110,39,116,32,111,102,32,116,104,101,32,108,97,110,103,117,97,103,101]⟩] 361,.cells #[.string ⟨#[99,97,110,99,101,108,108,101,100]⟩] 361,.cells #[.string ⟨#[100,105,118,105,115,105,111,110,32,98,121,32,122,101,114,111]⟩] 361],#[],[]⟩
  { w0 with heap:=((((((((((((((((((((w0.heap.modify 5 (setc (.iface 340 (.pointer (some ⟨lowB + 0,0,none⟩))))).modify 8 (setc (.iface 340 (.pointer (some ⟨lowB + 1,0,none⟩))))).modify 9 (setc (.iface 340 (.pointer (some ⟨lowB + 2,0,none⟩))))).modify 10 (setc (.iface 340 (.pointer (some ⟨lowB + 3,0,none⟩))))).modify 7 (setc (.iface 340 (.pointer (some ⟨lowB + 4,0,none⟩))))).modify 11 (setc (.iface 340 (.pointer (some ⟨lowB + 5,0,none⟩))))).modify 6 (setc (.iface 340 (.pointer (some ⟨lowB + 6,0,none⟩))))).modify 4 (setc (.iface 340 (.pointer (some ⟨lowB + 7,0,none⟩))))).modify 3 (setc (.iface 340 (.pointer (some ⟨lowB + 8,0,none⟩))))).modify 0 (setc (.iface 340 (.pointer (some ⟨lowB + 9,0,none⟩))))).modify 12 (setc (.iface 340 (.pointer (some ⟨lowB + 10,0,none⟩))))).modify 2 (setc (.iface 340 (.pointer (some ⟨lowB + 11,0,none⟩))))).modify 1 (setc (.iface 340 (.pointer (some ⟨lowB + 12,0,none⟩))))).modify 13 (setc (.iface 340 (.pointer (some ⟨lowB + 13,0,none⟩))))).modify 14 (setc (.iface 340 (.pointer (some ⟨lowB + 14,0,none⟩))))).modify 15 (setc (.iface 340 (.pointer (some ⟨lowB + 15,0,none⟩))))).modify 16 (setc (.iface 340 (.pointer (some ⟨lowB + 16,0,none⟩))))).modify 17 (setc (.iface 340 (.pointer (some ⟨lowB + 17,0,none⟩))))).modify 18 (setc (.iface 340 (.pointer (some ⟨lowB + 18,0,none⟩))))).modify 19 (setc (.iface 340 (.pointer (some ⟨lowB + 19,0,none⟩))))) }
set_option maxRecDepth 100000 in
theorem laidWorld_met (os : Os) (args : Array Value) : laidMetH Tryz.prog Rows.ferryPlansBootRow.laid ((laidWorld os).forCall (fun _ _=>0) ⟨#[],args,[]⟩).memory:=
  laidMetH_iff.2 ⟨laidMet_of_run (ps:=[.cell 5 0,.cell (lowB + 0) 0,.cell 8 0,.cell (lowB + 1) 0,.cell 9 0,.cell (lowB + 2) 0,.cell 10 0,.cell (lowB + 3) 0,.cell 7 0,.cell (lowB + 4) 0,.cell 11 0,.cell (lowB + 5) 0,.cell 6 0,.cell (lowB + 6) 0,.cell 4 0,.cell (lowB + 7) 0,.cell 3 0,.cell (lowB + 8) 0,.cell 0 0,.cell (lowB + 9) 0,.cell 12 0,.cell (lowB + 10) 0,.cell 2 0,.cell (lowB + 11) 0,.cell 1 0,.cell (lowB + 12) 0,.cell 13 0,.cell (lowB + 13) 0,.cell 14 0,.cell (lowB + 14) 0,.cell 15 0,.cell (lowB + 15) 0,.cell 16 0,.cell (lowB + 16) 0,.cell 17 0,.cell (lowB + 17) 0,.cell 18 0,.cell (lowB + 18) 0,.cell 19 0,.cell (lowB + 19) 0]) 8 (by kernel_rfl) (by kernel_rfl) (by kernel_rfl),fun x hx=>by cases hx⟩
theorem vars_of {W : World} (h : laidMetH Tryz.prog Rows.ferryPlansBootRow.laid W) : ∃ A, GV 340 (specs.map (·.2.1)) A W := by
  obtain ⟨ps, h1, h2, h3⟩ := (laidMetH_iff.1 h).1
  obtain ⟨ads, hG, _⟩ := Zpi (nm := "*errors.errorString") Tryz.underlying39 Tryz.rowE Tryz.underlying340 Tryz.underlying361 rfl rfl Tryz.underlying9 Tryz.cE Tryz.cS specs ps h1 h2 h3 (by
    intro x hx
    simp only [specs, List.mem_cons, List.not_mem_nil, or_false] at hx
    rcases hx with rfl | rfl | rfl | rfl | rfl | rfl | rfl | rfl | rfl | rfl | rfl | rfl | rfl | rfl | rfl | rfl | rfl | rfl | rfl | rfl
    all_goals exact ⟨by kernel_rfl, by kernel_rfl⟩)
  exact hG.f (by decide)
set_option maxRecDepth 100000 in
set_option maxHeartbeats 1000000 in
theorem ferryPlansBoot_lifted (os : Os) (started : os.Started) (H : Type) (enc : TypeId × Value → H) :
    ReturnsInHanded {} Tryz.checked os 11 .any (fun w args=>(Rows.ferryPlansBootSpec.pre enc Tryz.prog Tryz.f11 [] false w args ∧ laidMetH Tryz.prog Rows.ferryPlansBootRow.laid w) ∧ sizedMet enc Tryz.prog Tryz.f11 (OpenSpec.ofChange Rows.ferryPlansBootSpec) false w args)
      (Rows.ferryPlansBootSpec.post enc Tryz.prog Tryz.f11 false true false false):=by
  refine returnsInHanded_of_change_and (C:=Tryz.checked) (X:=fun w _=>laidMetH Tryz.prog Rows.ferryPlansBootRow.laid w) (fun _ _ _ hh h=>h.of_heap hh) Tryz.own started (by kernel_rfl) Tryz.func11
    (ChangeSpec.witness_at (enc:=enc) (C:=Tryz.checked) (os:=os) (X:=fun w _=>laidMetH Tryz.prog Rows.ferryPlansBootRow.laid w) false (laidWorld os) #[.agg #[.int .i64 0,.bool false,.slice none 0 0,.slice none 0 0,.slice none 0 0,.int .i64 0,.slice none 0 0],.slice none 0 0] 8 rfl (by kernel_rfl) (by kernel_rfl) (by kernel_rfl) (by kernel_rfl) (by kernel_rfl) (laidWorld_met os _)) ?_
  intro W base args ds gs Zko hval0 hW _ hsz0 hL _
  have hsz : (DataW.weightsEach Tryz.prog (Tryz.f11.params.toList ++ Rows.ferryPlansBootSpec.plain.varTypes Tryz.prog) (ds ++ gs)).all (· ≤ reachBytes)=true:=hsz0
  clear hsz0
  have hval : ∀ (j : Nat) t v,Tryz.f11.params[j]? = some t → args[j]? = some v → Value.okWide Tryz.prog W .any base t v:=hval0
  have hW':=hW
  obtain⟨p,q,hA0,hV,rfl,_,_⟩:=hW
  have hA : DataW.TrodAll enc Tryz.prog W 0 (fun _=>true) true Tryz.f11.params.toList args.toList ds p:=hA0
  rw [Tryz.params11] at hA hval hsz
  obtain⟨v0,v1,d0,d1,p0,p1,rfl,rfl,rfl,h0,h1⟩:=trodAll_two hA
  obtain⟨rfl,rfl⟩:=trodVars_none hV
  clear hA0 hval0
  simp only [List.append_nil] at hW'
  have r0:=Rd.of (ts:=_) (ds:=_) (j:=0) h0 hsz rfl rfl
  obtain⟨ar0,rfl,_⟩:=okWide_struct Tryz.underlying27 (hval 0 27 v0 rfl rfl)
  obtain⟨cs0,rfl⟩ : ∃ l : List Value,ar0=l.toArray:=⟨ar0.toList,by simp⟩
  obtain⟨x0,hx0,ok0⟩:=rd_GPlan (cs:=cs0) r0
  have r1:=Rd.of (ts:=_) (ds:=_) (j:=1) h1 hsz rfl rfl
  obtain⟨sv1,x1,hz1,hs1,kz1⟩:=r1.slice Tryz.underlying100 sz5 by5 (elR_byte)
  obtain⟨sa1,sl1,sc1,rfl⟩:=okWide_slice Tryz.underlying100 (hval 1 100 v1 rfl rfl)
  have q1 : [Value.slice sa1 sl1 sc1]=[sv1]:=hz1
  obtain rfl : .slice sa1 sl1 sc1=sv1:=(List.cons.inj q1).1
  have hlt0 : ∀ x ∈ p0,x.block < W.heap.size:=fun x hx=>hW'.lt x (by simp [hx])
  have ha0 : ∀ (W' : World),Below W.heap.size W W' → DataW.Trod enc Tryz.prog W' 0 (fun b=>decide (b < W.heap.size)) true 27 _ d0 p0:=
    fun W' hn=>Below.trod Tryz.laidOut (by kernel_rfl) (of_decide_eq_true (by kernel_rfl)) h0 hn hlt0
  have hlt1 : ∀ x ∈ p1,x.block < W.heap.size:=fun x hx=>hW'.lt x (by simp [hx])
  have ha1 : ∀ (W' : World),Below W.heap.size W W' → DataW.Trod enc Tryz.prog W' 0 (fun b=>decide (b < W.heap.size)) true 100 _ d1 p1:=
    fun W' hn=>Below.trod Tryz.laidOut (by kernel_rfl) (of_decide_eq_true (by kernel_rfl)) h1 hn hlt1
  obtain⟨A,hG⟩:=vars_of hL
  refine (Zdf (A:=A) (hG.sub (by decide)) hx0 hs1.r (Zfw x0 x1 (okPlan_of ok0) (okBytes hs1.b))).mono fun e W' ⟨v,he,hv,hnx⟩=>?_
  subst he;subst hv
  refine⟨_,rfl,_,_,_,[],_,[],hW',?_,trodAll_mk2 (ha0 _ hnx) (ha1 _ hnx),rfl,hnx.frame _,fun h=>by cases h⟩
  exact trodAll_mk1 (shut_bool Tryz.underlying4 true)
theorem ferryPlansBoot_holds : Rows.FerryPlansBootSaid:=
  OpenClaim.holds_of_wide 11 Tryz.f11 rfl rfl rfl rfl rfl rfl rfl ⟨rfl,rfl,rfl,rfl,rfl⟩ rfl rfl rfl rfl rfl Zd4 Tryz.func11 Zdh
    Zei Zej
    (fun os started H enc _=>ferryPlansBoot_lifted os started H enc)
theorem ferryPlansBoot_card_holds : Rows.FerryPlansBootCardSaid :=
  Claim7.holds_tied_plain_at .later [] [.sentinel, .sentinel, .sentinel, .sentinel, .sentinel, .sentinel, .sentinel, .sentinel, .sentinel, .sentinel, .sentinel, .sentinel, .sentinel, .sentinel, .sentinel, .sentinel, .sentinel, .sentinel, .sentinel, .sentinel] true (true, "2dca3c0125b68b7d8a50578bfc78c2374236e9b4c472f5062974918d4192e1db") true
    ferryPlansBoot_holds (fun _ h => by cases h) (by kernel_rfl) (fun _ h => by cases h) ferryPlansBoot_row_tie rfl ⟨rfl, rfl⟩ (by kernel_rfl) rfl
    (fun f fn hf hfn => by
      obtain rfl : f = 11 := Option.some.inj ((show Tryz.prog.funcNamed "ferry/ferrytop.FerryPlansBoot" = some 11 by kernel_rfl).symm.trans hf) |>.symm
      obtain rfl : fn = Tryz.f11 := (Option.some.inj (Tryz.func11.symm.trans hfn)).symm
      exact ⟨by kernel_rfl, fun j t ht => by
        rw [Tryz.params11] at ht
        have hm : t ∈ [27, 100] := List.mem_of_getElem? (by simpa using ht)
        simp only [List.mem_cons, List.not_mem_nil, or_false] at hm
        rcases hm with rfl | rfl
        all_goals exact (by kernel_rfl : Tryz.prog.wantsStandIn _ = false)⟩)
    (by kernel_rfl)
end Go.Proofs.YtfemfiiagjnhdaaGreatDoor
