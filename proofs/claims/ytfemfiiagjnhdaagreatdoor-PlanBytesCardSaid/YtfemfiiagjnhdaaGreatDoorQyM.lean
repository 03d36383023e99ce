/- The law PlanBytes: whatever the input, it returns true, and the argument reads behind the call as it read before it; the listed variables are as the text lays them, which the card ties to the text. (written by wip/tools) -/
import Derived.Test.YtfemfiiagjnhdaaGreatDoorQyI
import Derived.Test.YtfemfiiagjnhdaaGreatDoorQyK
import Derived.Test.YtfemfiiagjnhdaaGreatDoorQyL
import Derived.Test.YtfemfiiagjnhdaaGreatDoorQyB
import Derived.Test.YtfemfiiagjnhdaaGreatDoorCards
import Derived.Test.YtfemfiiagjnhdaaGreatDoorTie
import Derived.ChangeSame
import Derived.ChangeVars
import Derived.JoinedOf
import Derived.JoinedCond
import Derived.RowKit
import Derived.RowKitTokens
import Derived.LaidLaws
import Derived.LaidHandle
import Derived.LaidSub
import Derived.Stop.Joined
import Derived.SevenTiedAt
import Derived.Deep.DeepHandedRow
import Derived.OpenShut
set_option linter.unusedVariables false
set_option linter.unusedSimpArgs false
set_option maxRecDepth 10000
namespace Go.Proofs.YtfemfiiagjnhdaaGreatDoor
open Go Go.RowKit
open Go.ChangeShapes Go.WideShapes Go.ChangeAt
theorem by114 : Tryz.prog.bytesOf 114=24:=by kernel_rfl
theorem by116 : Tryz.prog.bytesOf 116=24:=by kernel_rfl
theorem by118 : Tryz.prog.bytesOf 118=32:=by kernel_rfl
theorem by3 : Tryz.prog.bytesOf 3=8:=by kernel_rfl
theorem by5 : Tryz.prog.bytesOf 5=1:=by kernel_rfl
theorem fl103 : Zmd Tryz.prog 103=some [(27,0),(27,7),(100,14),(3,15),(101,16)]:=by kernel_rfl
theorem fl114 : Zmd Tryz.prog 114=some [(3,0),(9,1)]:=by kernel_rfl
theorem fl116 : Zmd Tryz.prog 116=some [(3,0),(3,1),(4,2)]:=by kernel_rfl
theorem fl118 : Zmd Tryz.prog 118=some [(3,0),(3,1),(3,2),(3,3)]:=by kernel_rfl
theorem fl27 : Zmd Tryz.prog 27=some [(3,0),(4,1),(22,2),(23,3),(24,4),(3,5),(25,6)]:=by kernel_rfl
theorem sz103 : Xx Tryz.prog 103=some 17:=by kernel_rfl
theorem sz9 : Xx Tryz.prog 9=some 1:=by kernel_rfl
def okGPagePlan (x : GPagePlan) : Prop:=inK .i64 x.Rights ∧ x.Init.size ≤ lim ∧ True
theorem rd_GPagePlan {H : Type} {enc : TypeId × Value → H} {w : World} {cs : List Value} (h : Rd enc Tryz.prog w 114 cs) : ∃ x : GPagePlan,Zq Qc w cs x ∧ okGPagePlan x:=by
  obtain⟨hl,hf⟩:=h.struct fl114 Tk
  obtain⟨z0,h0,k0⟩:=(hf 0 3 0 1 rfl sz3).int Tryz.underlying3
  obtain⟨z1,h1,k1⟩:=(hf 1 9 1 1 rfl sz9).string Tryz.underlying9
  have e : cs=(cs.drop 0).take 1 ++ (cs.drop 1).take 1:=by
    match cs,hl with
    | [c0,c1],_=>rfl
  rw [h0,h1] at e
  exact⟨⟨z0,z1⟩,by rw [e];rfl,k0,k1,trivial⟩
def okGProcPlan (x : GProcPlan) : Prop:=inK .i64 x.Entry ∧ inK .i64 x.Prio ∧ True ∧ True
theorem rd_GProcPlan {H : Type} {enc : TypeId × Value → H} {w : World} {cs : List Value} (h : Rd enc Tryz.prog w 116 cs) : ∃ x : GProcPlan,Zq Zx w cs x ∧ okGProcPlan x:=by
  obtain⟨hl,hf⟩:=h.struct fl116 Tl
  obtain⟨z0,h0,k0⟩:=(hf 0 3 0 1 rfl sz3).int Tryz.underlying3
  obtain⟨z1,h1,k1⟩:=(hf 1 3 1 1 rfl sz3).int Tryz.underlying3
  obtain⟨z2,h2⟩:=(hf 2 4 2 1 rfl sz4).bool Tryz.underlying4
  have e : cs=(cs.drop 0).take 1 ++ (cs.drop 1).take 1 ++ (cs.drop 2).take 1:=by
    match cs,hl with
    | [c0,c1,c2],_=>rfl
  rw [h0,h1,h2] at e
  exact⟨⟨z0,z1,z2⟩,by rw [e];rfl,k0,k1,trivial,trivial⟩
def okGPortPlan (x : GPortPlan) : Prop:=inK .i64 x.Kind ∧ inK .i64 x.Size ∧ inK .i64 x.Depth ∧ inK .i64 x.Refresh ∧ True
theorem rd_GPortPlan {H : Type} {enc : TypeId × Value → H} {w : World} {cs : List Value} (h : Rd enc Tryz.prog w 118 cs) : ∃ x : GPortPlan,Zq Zw w cs x ∧ okGPortPlan x:=by
  obtain⟨hl,hf⟩:=h.struct fl118 Us
  obtain⟨z0,h0,k0⟩:=(hf 0 3 0 1 rfl sz3).int Tryz.underlying3
  obtain⟨z1,h1,k1⟩:=(hf 1 3 1 1 rfl sz3).int Tryz.underlying3
  obtain⟨z2,h2,k2⟩:=(hf 2 3 2 1 rfl sz3).int Tryz.underlying3
  obtain⟨z3,h3,k3⟩:=(hf 3 3 3 1 rfl sz3).int Tryz.underlying3
  have e : cs=(cs.drop 0).take 1 ++ (cs.drop 1).take 1 ++ (cs.drop 2).take 1 ++ (cs.drop 3).take 1:=by
    match cs,hl with
    | [c0,c1,c2,c3],_=>rfl
  rw [h0,h1,h2,h3] at e
  exact⟨⟨z0,z1,z2,z3⟩,by rw [e];rfl,k0,k1,k2,k3,trivial⟩
theorem elR_3 {H : Type} {enc : TypeId × Value → H} {w : World} (ecs : List Value) (h : Rd enc Tryz.prog w 3 ecs) (_ : ecs.length=1) : ∃ x : Int,Zq eI w ecs x ∧ inK .i64 x:=by
  obtain⟨z,rfl,hz⟩:=h.int Tryz.underlying3
  exact⟨z,rfl,hz⟩
def okGPlan (x : GPlan) : Prop:=inK .i64 x.Id ∧ True ∧ (x.Pages.length * 24 ≤ lim ∧ ∀ y0 ∈ x.Pages,okGPagePlan y0) ∧ (x.Procs.length * 24 ≤ lim ∧ ∀ y0 ∈ x.Procs,okGProcPlan y0) ∧ (x.Ports.length * 32 ≤ lim ∧ ∀ y0 ∈ x.Ports,okGPortPlan y0) ∧ inK .i64 x.Events ∧ (x.Sems.length * 8 ≤ lim ∧ ∀ y0 ∈ x.Sems,inK .i64 y0) ∧ True
theorem rd_GPlan {H : Type} {enc : TypeId × Value → H} {w : World} {cs : List Value} (h : Rd enc Tryz.prog w 27 cs) : ∃ x : GPlan,Qw w cs x ∧ okGPlan x:=by
  obtain⟨hl,hf⟩:=h.struct fl27 Ut
  obtain⟨z0,h0,k0⟩:=(hf 0 3 0 1 rfl sz3).int Tryz.underlying3
  obtain⟨z1,h1⟩:=(hf 1 4 1 1 rfl sz4).bool Tryz.underlying4
  obtain⟨v2,z2,h2,s2,k2⟩:=(hf 2 22 2 1 rfl sz22).slice Tryz.underlying22 Tk by114 (fun ecs h _=>rd_GPagePlan h)
  obtain⟨v3,z3,h3,s3,k3⟩:=(hf 3 23 3 1 rfl sz23).slice Tryz.underlying23 Tl by116 (fun ecs h _=>rd_GProcPlan h)
  obtain⟨v4,z4,h4,s4,k4⟩:=(hf 4 24 4 1 rfl sz24).slice Tryz.underlying24 Us by118 (fun ecs h _=>rd_GPortPlan h)
  obtain⟨z5,h5,k5⟩:=(hf 5 3 5 1 rfl sz3).int Tryz.underlying3
  obtain⟨v6,z6,h6,s6,k6⟩:=(hf 6 25 6 1 rfl sz25).slice Tryz.underlying25 sz3 by3 elR_3
  have e : cs=(cs.drop 0).take 1 ++ (cs.drop 1).take 1 ++ (cs.drop 2).take 1 ++ (cs.drop 3).take 1 ++ (cs.drop 4).take 1 ++ (cs.drop 5).take 1 ++ (cs.drop 6).take 1:=by
    match cs,hl with
    | [c0,c1,c2,c3,c4,c5,c6],_=>rfl
  rw [h0,h1,h2,h3,h4,h5,h6] at e
  exact⟨⟨z0,z1,z2,z3,z4,z5,z6⟩,⟨v2,v3,v4,v6,by rw [e];rfl,s2.r,s3.r,s4.r,s6.r⟩,k0,trivial,⟨s2.b,k2⟩,⟨s3.b,k3⟩,⟨s4.b,k4⟩,k5,⟨s6.b,k6⟩,trivial⟩
theorem elR_byte {H : Type} {enc : TypeId × Value → H} {w : World} (ecs : List Value) (h : Rd enc Tryz.prog w 5 ecs) (_ : ecs.length=1) : ∃ x : UInt8,Zq eB w ecs x ∧ True:=by
  obtain⟨z,rfl,hz⟩:=h.int Tryz.underlying5
  simp only [inK,Lit.wf,Bool.and_eq_true,decide_eq_true_eq] at hz
  have h1 : IntKind.u8.min=0:=by decide
  have h2 : IntKind.u8.max=255:=by decide
  exact⟨Zt z,(Zeg (by omega) (by omega)).symm,trivial⟩
def okGL10Case (x : GL10Case) : Prop:=okGPlan x.P ∧ okGPlan x.Q ∧ (x.B.length * 1 ≤ lim ∧ ∀ y0 ∈ x.B,True) ∧ inK .i64 x.At ∧ inK .u32 x.Mask ∧ True
theorem rd_GL10Case {H : Type} {enc : TypeId × Value → H} {w : World} {cs : List Value} (h : Rd enc Tryz.prog w 103 cs) : ∃ x : GL10Case,Zfk w cs x ∧ okGL10Case x:=by
  obtain⟨hl,hf⟩:=h.struct fl103 sz103
  obtain⟨z0,⟨v0_0,v0_1,v0_2,v0_3,h0,s0_0,s0_1,s0_2,s0_3⟩,k0⟩:=rd_GPlan (hf 0 27 0 7 rfl Ut)
  obtain⟨z1,⟨v1_0,v1_1,v1_2,v1_3,h1,s1_0,s1_1,s1_2,s1_3⟩,k1⟩:=rd_GPlan (hf 1 27 7 7 rfl Ut)
  obtain⟨v2,z2,h2,s2,k2⟩:=(hf 2 100 14 1 rfl Zok).slice Tryz.underlying100 sz5 by5 elR_byte
  obtain⟨z3,h3,k3⟩:=(hf 3 3 15 1 rfl sz3).int Tryz.underlying3
  obtain⟨z4,h4,k4⟩:=(hf 4 101 16 1 rfl Zp1).int Tryz.underlying101
  have e : cs=(cs.drop 0).take 7 ++ (cs.drop 7).take 7 ++ (cs.drop 14).take 1 ++ (cs.drop 15).take 1 ++ (cs.drop 16).take 1:=by
    match cs,hl with
    | [c0,c1,c2,c3,c4,c5,c6,c7,c8,c9,c10,c11,c12,c13,c14,c15,c16],_=>rfl
  rw [h0,h1,h2,h3,h4] at e
  exact⟨⟨z0,z1,z2,z3,z4⟩,⟨v0_0,v0_1,v0_2,v0_3,v1_0,v1_1,v1_2,v1_3,v2,by rw [e];rfl,s0_0,s0_1,s0_2,s0_3,s1_0,s1_1,s1_2,s1_3,s2.r⟩,k0,k1,⟨s2.b,k2⟩,k3,k4,trivial⟩
theorem okPlan_of {p : GPlan} (h : okGPlan p) : Zkf p:=by
  have hm : lim ≤ Zlw:=by decide
  obtain⟨_,_,g1,g2,g3,_,g4,_⟩:=h
  exact⟨Nat.le_trans g1.1 hm,Nat.le_trans g2.1 hm,Nat.le_trans g3.1 hm,Nat.le_trans g4.1 hm⟩
theorem okCase_of {x : GL10Case} (h : okGL10Case x) : Zkf x.P ∧ x.B.length ≤ 140737488355328:=by
  have hm : lim ≤ Zlw:=by decide
  obtain⟨h1,h2,h3,_⟩:=h
  exact⟨okPlan_of h1,by have:=Nat.le_trans h3.1 hm;simp only [Zlw] at this;omega⟩
theorem Tryz.own : ownKnob Tryz.prog.godebug=none:=by kernel_rfl
theorem Tryz.laidOut : laidOutB Tryz.prog=true:=by kernel_rfl
theorem Tryz.starE : "*" ++ "errors.errorString" = "*errors.errorString" := by decide
theorem Tryz.rowE (u : TypeId) (h : Tryz.prog.typeName? 3 u = some "*errors.errorString") : u = 340 :=
  typeName_ptr_named (nm := "errors.errorString") (by rw [Tryz.starE]; kernel_rfl) (by kernel_rfl) (by decide) u (by rw [Tryz.starE]; exact h)
theorem Tryz.cE : Tryz.prog.cellsOf 361=1:=by kernel_rfl
theorem Tryz.cS : Tryz.prog.cellsOf 9=1:=by kernel_rfl
def specs : List (String × Nat × List UInt8) := [("ferry/api.ErrShort", 5, [116, 104, 101, 32, 98, 121, 116, 101, 115, 32, 101, 110, 100, 32, 116, 111, 111, 32, 101, 97, 114, 108, 121]), ("ferry/api.ErrRest", 8, [115, 111, 109, 101, 116, 104, 105, 110, 103, 32, 105, 115, 32, 108, 101, 102, 116, 32, 111, 118, 101, 114]), ("ferry/api.ErrTag", 9, [97, 110, 111, 116, 104, 101, 114, 32, 116, 97, 103, 32, 105, 115, 32, 119, 97, 110, 116, 101, 100]), ("ferry/api.ErrRange", 10, [97, 32, 110, 117, 109, 98, 101, 114, 32, 111, 117, 116, 32, 111, 102, 32, 105, 116, 115, 32, 114, 97, 110, 103, 101]), ("ferry/api.ErrLength", 7, [97, 32, 108, 101, 110, 103, 116, 104, 32, 116, 104, 97, 116, 32, 105, 115, 110, 39, 116, 32, 116, 104, 101, 32, 116, 104, 105, 110, 103, 39, 115]), ("ferry/api.ErrSum", 11, [116, 104, 101, 32, 99, 104, 101, 99, 107, 32, 115, 117, 109, 32, 105, 115, 32, 119, 114, 111, 110, 103]), ("ferry/api.ErrKind", 6, [110, 111, 32, 115, 117, 99, 104, 32, 107, 105, 110, 100]), ("ferry/api.ErrPlan", 4, [110, 111, 116, 32, 111, 102, 32, 116, 104, 105, 115, 32, 112, 108, 97, 110]), ("ferry/api.ErrState", 3, [116, 104, 101, 32, 115, 116, 97, 116, 101, 32, 98, 114, 101, 97, 107, 115, 32, 97, 32, 114, 117, 108, 101]), ("ferry/api.ErrBase", 0, [110, 111, 116, 32, 111, 118, 101, 114, 32, 116, 104, 105, 115, 32, 98, 97, 115, 101]), ("ferry/api.ErrSize", 12, [116, 111, 111, 32, 108, 97, 114, 103, 101]), ("ferry/api.ErrArg", 2, [97, 32, 119, 114, 111, 110, 103, 32, 97, 114, 103, 117, 109, 101, 110, 116]), ("ferry/api.ErrEnd", 1, [97, 32, 99, 111, 117, 110, 116, 101, 114, 32, 105, 115, 32, 97, 116, 32, 105, 116, 115, 32, 101, 110, 100]), ("ferry/api.ErrBusy", 13, [115, 111, 109, 101, 116, 104, 105, 110, 103, 32, 105, 115, 32, 117, 110, 100, 101, 114, 32, 119, 97, 121]), ("ferry/api.ErrDown", 14, [116, 104, 101, 32, 109, 111, 100, 117, 108, 101, 32, 105, 115, 32, 100, 111, 119, 110]), ("ferry/api.ErrLost", 15, [116, 104, 101, 32, 112, 97, 114, 116, 105, 116, 105, 111, 110, 32, 105, 115, 32, 108, 111, 115, 116]), ("ferry/api.ErrNone", 16, [116, 104, 101, 114, 101, 32, 105, 115, 32, 110, 111, 110, 101]), ("ferry/api.ErrText", 17, [97, 32, 116, 101, 120, 116, 32, 116, 104, 97, 116, 32, 105, 115, 110, 39, 116, 32, 111, 102, 32, 116, 104, 101, 32, 108, 97, 110, 103, 117, 97, 103, 101]), ("ferry/api.ErrStop", 18, [99, 97, 110, 99, 101, 108, 108, 101, 100]), ("ferry/api.ErrDivide", 19, [100, 105, 118, 105, 115, 105, 111, 110, 32, 98, 121, 32, 122, 101, 114, 111])]
def setc (v : Value) : Obj → Obj
  | .cells _ t fr=>.cells #[v] t fr
  | o=>o
noncomputable def lowB : Nat:=(World.holding Tryz.prog default ⟨#[],#[],[]⟩).heap.size
noncomputable def laidWorld (os : Os) : World:=
  let w0:=World.holding Tryz.prog os ⟨#[.cells #[.string ⟨#[116,104,101,32,98,121,116,101,115,32,101,110,100,32,116,111,111,32,101,97,114,108,121]⟩] 361,.cells #[.string ⟨#[115,111,109,101,116,104,105,110,103,32,105,115,32,108,101,102,116,32,111,118,101,114]⟩] 361,.cells #[.string ⟨#[97,110,111,116,104,101,114,32,116,97,103,32,105,115,32,119,97,110,116,101,100]⟩] 361,.cells #[.string ⟨#[97,32,110,117,109,98,101,114,32,111,117,116,32,111,102,32,105,116,115,32,114,97,110,103,101]⟩] 361,.cells #[.string ⟨#[97,32,108,101,110,103,116,104,32,116,104,97,116,32,105,115,110,39,116,32,116,104,101,32,116,104,105,110,103,39,115]⟩] 361,.cells #[.string ⟨#[116,104,101,32,99,104,101,99,107,32,115,117,109,32,105,115,32,119,114,111,110,103]⟩] 361,.cells #[.string ⟨#[110,111,32,115,117,99,104,32,107,105,110,100]⟩] 361,.cells #[.string ⟨#[110,111,116,32,111,102,32,116,104,105,115,32,112,108,97,110]⟩] 361,.cells #[.string ⟨#[116,104,101,32,115,116,97,116,101,32,98,114,101,97,107,115,32,97,32,114,117,108,101]⟩] 361,.cells #[.string ⟨#[110,111,116,32,111,118,101,114,32,116,104,105,115,32,98,97,115,101]⟩] 361,.cells #[.string ⟨#[116,111,111,32,108,97,114,103,101]⟩] 361,.cells #[.string ⟨#[97,32,119,114,111,110,103,32,97,114,103,117,109,101,110,116]⟩] 361,.cells #[.string ⟨#[97,32,99,111,117,110,116,101,114,32,105,115,32,97,116,32,105,116,115,32,101,110,100]⟩] 361,.cells #[.string ⟨#[115,111,109,101,116,104,105,110,103,32,105,115,32,117,110,100,101,114,32,119,97,121]⟩] 361,.cells #[.string ⟨#[116,104,101,32,109,111,100,117,108,101,32,105,115,32,100,111,119,110]⟩] 361,.cells #[.string ⟨#[116,104,101,32,112,97,114,116,105,116,105,111,110,32,105,115,32,108,111,115,116]⟩] 361,.cells #[.string ⟨#[116,104,101,114,101,32,105,115,32,110,111,110,101]⟩] 361,.cells #[.string ⟨#[97,32,116,101,120,116,32,116,104,97,116,32,105,115,110,39,116,32,111,102,32,116,104,101,32,108,97,110,103,117,97,103,101]⟩] 361,.cells #[.string ⟨#[99,97,110,99,101,108,108,101,100]⟩] 361,.cells #[.string ⟨#[100,105,118,105,115,105,111,110,32,98,121,32,122,101,114,111]⟩] 361],#[],[]⟩
  { w0 with heap:=(((((((((((((((((((((w0.heap.modify 5 (setc (.iface 340 (.pointer (some ⟨lowB + 0,0,none⟩))))).modify 8 (setc (.iface 340 (.pointer (some ⟨lowB + 1,0,none⟩))))).modify 9 (setc (.iface 340 (.pointer (some ⟨lowB + 2,0,none⟩))))).modify 10 (setc (.iface 340 (.pointer (some ⟨lowB + 3,0,none⟩))))).modify 7 (setc (.iface 340 (.pointer (some ⟨lowB + 4,0,none⟩))))).modify 11 (setc (.iface 340 (.pointer (some ⟨lowB + 5,0,none⟩))))).modify 6 (setc (.iface 340 (.pointer (some ⟨lowB + 6,0,none⟩))))).modify 4 (setc (.iface 340 (.pointer (some ⟨lowB + 7,0,none⟩))))).modify 3 (setc (.iface 340 (.pointer (some ⟨lowB + 8,0,none⟩))))).modify 0 (setc (.iface 340 (.pointer (some ⟨lowB + 9,0,none⟩))))).modify 12 (setc (.iface 340 (.pointer (some ⟨lowB + 10,0,none⟩))))).modify 2 (setc (.iface 340 (.pointer (some ⟨lowB + 11,0,none⟩))))).modify 1 (setc (.iface 340 (.pointer (some ⟨lowB + 12,0,none⟩))))).modify 13 (setc (.iface 340 (.pointer (some ⟨lowB + 13,0,none⟩))))).modify 14 (setc (.iface 340 (.pointer (some ⟨lowB + 14,0,none⟩))))).modify 15 (setc (.iface 340 (.pointer (some ⟨lowB + 15,0,none⟩))))).modify 16 (setc (.iface 340 (.pointer (some ⟨lowB + 16,0,none⟩))))).modify 17 (setc (.iface 340 (.pointer (some ⟨lowB + 17,0,none⟩))))).modify 18 (setc (.iface 340 (.pointer (some ⟨lowB + 18,0,none⟩))))).modify 19 (setc (.iface 340 (.pointer (some ⟨lowB + 19,0,none⟩))))).modify 20 (setc (.iface 317 (.agg #[.pointer (some ⟨21,39,none⟩)])))) }
set_option maxRecDepth 100000 in
theorem laidWorld_met (os : Os) (args : Array Value) : laidMetH Tryz.prog Rows.planBytesRow.laid ((laidWorld os).forCall (fun _ _=>0) ⟨#[],args,[]⟩).memory:=
  laidMetH_of_parts (laidMet_of_run (ps:=[.cell 5 0,.cell (lowB + 0) 0,.cell 8 0,.cell (lowB + 1) 0,.cell 9 0,.cell (lowB + 2) 0,.cell 10 0,.cell (lowB + 3) 0,.cell 7 0,.cell (lowB + 4) 0,.cell 11 0,.cell (lowB + 5) 0,.cell 6 0,.cell (lowB + 6) 0,.cell 4 0,.cell (lowB + 7) 0,.cell 3 0,.cell (lowB + 8) 0,.cell 0 0,.cell (lowB + 9) 0,.cell 12 0,.cell (lowB + 10) 0,.cell 2 0,.cell (lowB + 11) 0,.cell 1 0,.cell (lowB + 12) 0,.cell 13 0,.cell (lowB + 13) 0,.cell 14 0,.cell (lowB + 14) 0,.cell 15 0,.cell (lowB + 15) 0,.cell 16 0,.cell (lowB + 16) 0,.cell 17 0,.cell (lowB + 17) 0,.cell 18 0,.cell (lowB + 18) 0,.cell 19 0,.cell (lowB + 19) 0]) 8 (by kernel_rfl) (by kernel_rfl) (by kernel_rfl)) (by kernel_rfl)
theorem vars_of {W : World} (h : laidMetH Tryz.prog Rows.planBytesRow.laid W) : ∃ A, GV 340 (specs.map (·.2.1)) A W := by
  obtain ⟨ps, h1, h2, h3⟩ := (laidMetH_iff.1 h).1
  obtain ⟨ads, hG, _⟩ := Zpd (nm := "*errors.errorString") Tryz.underlying39 Tryz.rowE Tryz.underlying340 Tryz.underlying361 rfl rfl Tryz.underlying9 Tryz.cE Tryz.cS specs ps h1 h2 h3 (by
    intro x hx
    simp only [specs, List.mem_cons, List.not_mem_nil, or_false] at hx
    rcases hx with rfl | rfl | rfl | rfl | rfl | rfl | rfl | rfl | rfl | rfl | rfl | rfl | rfl | rfl | rfl | rfl | rfl | rfl | rfl | rfl
    all_goals exact ⟨by kernel_rfl, by kernel_rfl⟩)
  exact hG.f (by decide)
theorem Tryz.rt : (Tryz.prog.cutTypes.find? (·.1 == "internal/reflectlite.rtype")).map (·.2) = some 317 := by kernel_rfl
theorem Tryz.oneRow : ((List.range 373).filter fun t=>Tryz.prog.rowNamed t [101,114,114,111,114])=[39]:=by kernel_rfl
theorem Tryz.tsize : Tryz.prog.types.size=373:=by kernel_rfl
theorem Tryz.etG : Tryz.prog.globalNamed "errors.errorType" = some 20 := by kernel_rfl
theorem handle_of {W : World} (h : laidMetH Tryz.prog Rows.planBytesRow.laid W) : W.cell? ⟨20, 0, none⟩ = some (.iface 317 (.agg #[.pointer (some ⟨21, 39, none⟩)])) := by
  have hx := (laidMetH_iff.1 h).2 ("errors.errorType", Rows.laid_errors_errorType) (List.mem_filter.2 ⟨by unfold Rows.planBytesRow; exact List.mem_cons_self, by kernel_rfl⟩)
  have hn : (Rows.laid_errors_errorType (H := Unit)).funcsIn? = none := by kernel_rfl
  simp only [hn] at hx
  obtain ⟨name, u, ty, e1, e2, e3, e4, e5⟩ := hx
  have en : name = [101, 114, 114, 111, 114] := (Option.some.inj ((show (Rows.laid_errors_errorType (H := Unit)).handleName? = some [101, 114, 114, 111, 114] by kernel_rfl).symm.trans e1)).symm
  subst en
  obtain rfl := Option.some.inj (Tryz.rt.symm.trans e2)
  have hm : ty ∈ (List.range 373).filter fun t => Tryz.prog.rowNamed t [101, 114, 114, 111, 114] := List.mem_filter.2 ⟨List.mem_range.2 (by rw [← Tryz.tsize]; exact e3), e4⟩
  rw [Tryz.oneRow] at hm
  obtain rfl := List.mem_singleton.1 hm
  have hh : typeHandle Tryz.prog 39 = .pointer (some ⟨21, 39, none⟩) := by kernel_rfl
  rw [hh] at e5
  simpa using World.var?_cell Tryz.etG e5 0
set_option maxRecDepth 100000 in
set_option maxHeartbeats 1000000 in
theorem planBytes_lifted (os : Os) (started : os.Started) (H : Type) (enc : TypeId × Value → H) :
    ReturnsInHanded {} Tryz.checked os 9 .any (fun w args=>(Rows.planBytesSpec.pre enc Tryz.prog Tryz.f9 [] false w args ∧ laidMetH Tryz.prog Rows.planBytesRow.laid w) ∧ sizedMet enc Tryz.prog Tryz.f9 (OpenSpec.ofChange Rows.planBytesSpec) false w args)
      (Rows.planBytesSpec.post enc Tryz.prog Tryz.f9 false true false false):=by
  refine returnsInHanded_of_change_and (C:=Tryz.checked) (X:=fun w _=>laidMetH Tryz.prog Rows.planBytesRow.laid w) (fun _ _ _ hh h=>h.of_heap hh) Tryz.own started (by kernel_rfl) Tryz.func9
    (ChangeSpec.witness_at (enc:=enc) (C:=Tryz.checked) (os:=os) (X:=fun w _=>laidMetH Tryz.prog Rows.planBytesRow.laid w) false (laidWorld os) #[.agg #[.int .i64 0,.bool false,.slice none 0 0,.slice none 0 0,.slice none 0 0,.int .i64 0,.slice none 0 0,.int .i64 0,.bool false,.slice none 0 0,.slice none 0 0,.slice none 0 0,.int .i64 0,.slice none 0 0,.slice none 0 0,.int .i64 0,.int .u32 0]] 8 rfl (by kernel_rfl) (by kernel_rfl) (by kernel_rfl) (by kernel_rfl) (by kernel_rfl) (laidWorld_met os _)) ?_
  intro W base args ds gs Znb hval0 hW _ hsz0 hL _
  have hsz : (DataW.weightsEach Tryz.prog (Tryz.f9.params.toList ++ Rows.planBytesSpec.plain.varTypes Tryz.prog) (ds ++ gs)).all (· ≤ reachBytes)=true:=hsz0
  clear hsz0
  have hval : ∀ (j : Nat) t v,Tryz.f9.params[j]? = some t → args[j]? = some v → Value.okWide Tryz.prog W .any base t v:=hval0
  have hW':=hW
  obtain⟨p,q,hA0,hV,rfl,_,_⟩:=hW
  have hA : DataW.TrodAll enc Tryz.prog W 0 (fun _=>true) true Tryz.f9.params.toList args.toList ds p:=hA0
  rw [Tryz.params9] at hA hval hsz
  obtain⟨v0,d0,rfl,rfl,h0⟩:=trodAll_one hA
  obtain⟨rfl,rfl⟩:=trodVars_none hV
  clear hA0 hval0
  simp only [List.append_nil] at hW'
  have r0:=Rd.of (ts:=_) (ds:=_) (j:=0) h0 hsz rfl rfl
  obtain⟨ar0,rfl,_⟩:=okWide_struct Tryz.underlying103 (hval 0 103 v0 rfl rfl)
  obtain⟨cs0,rfl⟩ : ∃ l : List Value,ar0=l.toArray:=⟨ar0.toList,by simp⟩
  obtain⟨x0,hx0,ok0⟩:=rd_GL10Case (cs:=cs0) r0
  have hlt0 : ∀ x ∈ p,x.block < W.heap.size:=fun x hx=>hW'.lt x (by simp [hx])
  have ha0 : ∀ (W' : World),Below W.heap.size W W' → DataW.Trod enc Tryz.prog W' 0 (fun b=>decide (b < W.heap.size)) true 103 _ d0 p:=
    fun W' hn=>Below.trod Tryz.laidOut (by kernel_rfl) (of_decide_eq_true (by kernel_rfl)) h0 hn hlt0
  obtain⟨A,hG⟩:=vars_of hL
  have hH:=handle_of hL
  refine (Ze5 (A:=A) (hG.sub (by decide)) hH hx0 (Zif x0 (okCase_of ok0).1 (okCase_of ok0).2)).mono fun e W' ⟨v,he,hv,hnx⟩=>?_
  subst he;subst hv
  refine⟨_,rfl,_,_,_,[],_,[],hW',?_,trodAll_mk1 (ha0 _ hnx),rfl,hnx.frame _,fun h=>by cases h⟩
  exact trodAll_mk1 (shut_bool Tryz.underlying4 true)
theorem planBytes_holds : Rows.PlanBytesSaid:=
  OpenClaim.holds_of_wide 9 Tryz.f9 rfl rfl rfl rfl rfl rfl rfl ⟨rfl,rfl,rfl,rfl,rfl⟩ rfl rfl rfl rfl rfl Zg7 Tryz.func9 Zgp
    Zig Zih
    (fun os started H enc _=>planBytes_lifted os started H enc)
theorem planBytes_card_holds : Rows.PlanBytesCardSaid :=
  Claim7.holds_tied_plain_at .later [] [.handle, .sentinel, .sentinel, .sentinel, .sentinel, .sentinel, .sentinel, .sentinel, .sentinel, .sentinel, .sentinel, .sentinel, .sentinel, .sentinel, .sentinel, .sentinel, .sentinel, .sentinel, .sentinel, .sentinel, .sentinel] true (true, "2dca3c0125b68b7d8a50578bfc78c2374236e9b4c472f5062974918d4192e1db") true
    planBytes_holds (fun _ h => by cases h) (by kernel_rfl) (fun _ h => by cases h) planBytes_row_tie rfl ⟨rfl, rfl⟩ (by kernel_rfl) rfl
    (fun f fn hf hfn => by
      obtain rfl : f = 9 := Option.some.inj ((show Tryz.prog.funcNamed "ferry/ferrylaw10.PlanBytes" = some 9 by kernel_rfl).symm.trans hf) |>.symm
      obtain rfl : fn = Tryz.f9 := (Option.some.inj (Tryz.func9.symm.trans hfn)).symm
      exact ⟨by kernel_rfl, fun j t ht => by
        rw [Tryz.params9] at ht
        have hm : t ∈ [103] := List.mem_of_getElem? (by simpa using ht)
        simp only [List.mem_cons, List.not_mem_nil, or_false] at hm
        rcases hm with rfl
        all_goals exact (by kernel_rfl : Tryz.prog.wantsStandIn _ = false)⟩)
    (by kernel_rfl)
end Go.Proofs.YtfemfiiagjnhdaaGreatDoor
