/- The law EpochChains where what it reads is of bulk at most 1048576: it returns true, and the arguments read behind the call as they read before it; the listed variables are as the text lays them, which the card ties to the text. (written by wip/tools) -/
import Derived.Test.YtjekfpnpfllaoaaGreatDoorQcK
import Derived.Test.YtjekfpnpfllaoaaGreatDoorQcN
import Derived.Test.YtjekfpnpfllaoaaGreatDoorQcO
import Derived.Test.YtjekfpnpfllaoaaGreatDoorQcP
import Derived.Test.YtjekfpnpfllaoaaGreatDoorQcB
import Derived.Test.YtjekfpnpfllaoaaGreatDoorCards
import Derived.Test.YtjekfpnpfllaoaaGreatDoorTie
import Derived.ChangeSame
import Derived.ChangeVars
import Derived.JoinedOf
import Derived.JoinedCond
import Derived.RowKit
import Derived.RowKitTokens
import Derived.LaidLaws
import Derived.LaidHandle
import Derived.LaidSub
import Derived.Stop.Joined
import Derived.SevenTiedAt
import Derived.Deep.DeepHandedRow
import Derived.OpenShut
set_option linter.unusedVariables false
set_option linter.unusedSimpArgs false
set_option maxRecDepth 10000
namespace Go.Proofs.YtjekfpnpfllaoaaGreatDoor
open Go Go.RowKit
open Go.ChangeShapes Go.WideShapes Go.ChangeAt
theorem by101 : Tryz.prog.bytesOf 101=104:=by kernel_rfl
theorem by103 : Tryz.prog.bytesOf 103=24:=by kernel_rfl
theorem by107 : Tryz.prog.bytesOf 107=24:=by kernel_rfl
theorem by113 : Tryz.prog.bytesOf 113=16:=by kernel_rfl
theorem by152 : Tryz.prog.bytesOf 152=32:=by kernel_rfl
theorem by3 : Tryz.prog.bytesOf 3=8:=by kernel_rfl
theorem by34 : Tryz.prog.bytesOf 34=192:=by kernel_rfl
theorem by4 : Tryz.prog.bytesOf 4=1:=by kernel_rfl
theorem by74 : Tryz.prog.bytesOf 74=24:=by kernel_rfl
theorem by80 : Tryz.prog.bytesOf 80=80:=by kernel_rfl
theorem by88 : Tryz.prog.bytesOf 88=32:=by kernel_rfl
theorem by9 : Tryz.prog.bytesOf 9=16:=by kernel_rfl
theorem by98 : Tryz.prog.bytesOf 98=24:=by kernel_rfl
theorem fl101 : Zhw Tryz.prog 101=some [(99,0),(96,16),(3,17),(3,18),(3,19),(3,20)]:=by kernel_rfl
theorem fl103 : Zhw Tryz.prog 103=some [(3,0),(9,1)]:=by kernel_rfl
theorem fl107 : Zhw Tryz.prog 107=some [(3,0),(3,1),(5,2)]:=by kernel_rfl
theorem fl113 : Zhw Tryz.prog 113=some [(3,0),(3,1)]:=by kernel_rfl
theorem fl152 : Zhw Tryz.prog 152=some [(3,0),(3,1),(3,2),(3,3)]:=by kernel_rfl
theorem fl27 : Zhw Tryz.prog 27=some [(3,0),(4,1),(22,2),(23,3),(24,4),(3,5),(25,6)]:=by kernel_rfl
theorem fl34 : Zhw Tryz.prog 34=some [(3,0),(3,1),(3,2),(28,3),(25,4),(29,5),(30,6),(25,7),(31,8),(32,9)]:=by kernel_rfl
theorem fl80 : Zhw Tryz.prog 80=some [(3,0),(4,1),(78,2)]:=by kernel_rfl
theorem fl88 : Zhw Tryz.prog 88=some [(86,0),(3,1)]:=by kernel_rfl
theorem fl98 : Zhw Tryz.prog 98=some [(3,0),(3,1),(4,2)]:=by kernel_rfl
theorem sz22 : Xb Tryz.prog 22=some 1:=by kernel_rfl
theorem sz23 : Xb Tryz.prog 23=some 1:=by kernel_rfl
theorem sz24 : Xb Tryz.prog 24=some 1:=by kernel_rfl
theorem sz67 : Xb Tryz.prog 67=some 1:=by kernel_rfl
theorem sz68 : Xb Tryz.prog 68=some 1:=by kernel_rfl
def okGPagePlan (x : GPagePlan) : Prop:=inK .i64 x.Rights ∧ x.Init.size ≤ lim ∧ True
theorem rd_GPagePlan {H : Type} {enc : TypeId × Value → H} {w : World} {cs : List Value} (h : Rd enc Tryz.prog w 103 cs) : ∃ x : GPagePlan,Qs Vw w cs x ∧ okGPagePlan x:=by
  obtain⟨hl,hf⟩:=h.struct fl103 Zhg;obtain⟨z0,h0,k0⟩:=(hf 0 3 0 1 rfl sz3).int Tryz.underlying3;obtain⟨z1,h1,k1⟩:=(hf 1 9 1 1 rfl sz9).string Tryz.underlying9;have e : cs=(cs.drop 0).take 1 ++ (cs.drop 1).take 1:=by
    match cs,hl with
    | [c0,c1],_=>rfl
  rw [h0,h1] at e;exact⟨⟨z0,z1⟩,by rw [e];rfl,k0,k1,trivial⟩
def okGProcPlan (x : GProcPlan) : Prop:=inK .i64 x.Entry ∧ inK .i64 x.Prio ∧ True ∧ True
theorem rd_GProcPlan {H : Type} {enc : TypeId × Value → H} {w : World} {cs : List Value} (h : Rd enc Tryz.prog w 98 cs) : ∃ x : GProcPlan,Qs Vx w cs x ∧ okGProcPlan x:=by
  obtain⟨hl,hf⟩:=h.struct fl98 Zqm;obtain⟨z0,h0,k0⟩:=(hf 0 3 0 1 rfl sz3).int Tryz.underlying3;obtain⟨z1,h1,k1⟩:=(hf 1 3 1 1 rfl sz3).int Tryz.underlying3;obtain⟨z2,h2⟩:=(hf 2 4 2 1 rfl sz4).bool Tryz.underlying4;have e : cs=(cs.drop 0).take 1 ++ (cs.drop 1).take 1 ++ (cs.drop 2).take 1:=by
    match cs,hl with
    | [c0,c1,c2],_=>rfl
  rw [h0,h1,h2] at e;exact⟨⟨z0,z1,z2⟩,by rw [e];rfl,k0,k1,trivial,trivial⟩
def okGPortPlan (x : GPortPlan) : Prop:=inK .i64 x.Kind ∧ inK .i64 x.Size ∧ inK .i64 x.Depth ∧ inK .i64 x.Refresh ∧ True
theorem rd_GPortPlan {H : Type} {enc : TypeId × Value → H} {w : World} {cs : List Value} (h : Rd enc Tryz.prog w 152 cs) : ∃ x : GPortPlan,Qs Xa w cs x ∧ okGPortPlan x:=by
  obtain⟨hl,hf⟩:=h.struct fl152 Gj;obtain⟨z0,h0,k0⟩:=(hf 0 3 0 1 rfl sz3).int Tryz.underlying3;obtain⟨z1,h1,k1⟩:=(hf 1 3 1 1 rfl sz3).int Tryz.underlying3;obtain⟨z2,h2,k2⟩:=(hf 2 3 2 1 rfl sz3).int Tryz.underlying3;obtain⟨z3,h3,k3⟩:=(hf 3 3 3 1 rfl sz3).int Tryz.underlying3;have e : cs=(cs.drop 0).take 1 ++ (cs.drop 1).take 1 ++ (cs.drop 2).take 1 ++ (cs.drop 3).take 1:=by
    match cs,hl with
    | [c0,c1,c2,c3],_=>rfl
  rw [h0,h1,h2,h3] at e;exact⟨⟨z0,z1,z2,z3⟩,by rw [e];rfl,k0,k1,k2,k3,trivial⟩
theorem elR_3 {H : Type} {enc : TypeId × Value → H} {w : World} (ecs : List Value) (h : Rd enc Tryz.prog w 3 ecs) (_ : ecs.length=1) : ∃ x : Int,Qs eI w ecs x ∧ inK .i64 x:=by
  obtain⟨z,rfl,hz⟩:=h.int Tryz.underlying3;exact⟨z,rfl,hz⟩
def okGPlan (x : GPlan) : Prop:=inK .i64 x.Id ∧ True ∧ (x.Pages.length * 24 ≤ lim ∧ ∀ y0 ∈ x.Pages,okGPagePlan y0) ∧ (x.Procs.length * 24 ≤ lim ∧ ∀ y0 ∈ x.Procs,okGProcPlan y0) ∧ (x.Ports.length * 32 ≤ lim ∧ ∀ y0 ∈ x.Ports,okGPortPlan y0) ∧ inK .i64 x.Events ∧ (x.Sems.length * 8 ≤ lim ∧ ∀ y0 ∈ x.Sems,inK .i64 y0) ∧ True
theorem rd_GPlan {H : Type} {enc : TypeId × Value → H} {w : World} {cs : List Value} (h : Rd enc Tryz.prog w 27 cs) : ∃ x : GPlan,Qn w cs x ∧ okGPlan x:=by
  obtain⟨hl,hf⟩:=h.struct fl27 Zad;obtain⟨z0,h0,k0⟩:=(hf 0 3 0 1 rfl sz3).int Tryz.underlying3;obtain⟨z1,h1⟩:=(hf 1 4 1 1 rfl sz4).bool Tryz.underlying4;obtain⟨v2,z2,h2,s2,k2⟩:=(hf 2 22 2 1 rfl sz22).slice Tryz.underlying22 Zhg by103 (fun ecs h _=>rd_GPagePlan h);obtain⟨v3,z3,h3,s3,k3⟩:=(hf 3 23 3 1 rfl sz23).slice Tryz.underlying23 Zqm by98 (fun ecs h _=>rd_GProcPlan h);obtain⟨v4,z4,h4,s4,k4⟩:=(hf 4 24 4 1 rfl sz24).slice Tryz.underlying24 Gj by152 (fun ecs h _=>rd_GPortPlan h);obtain⟨z5,h5,k5⟩:=(hf 5 3 5 1 rfl sz3).int Tryz.underlying3;obtain⟨v6,z6,h6,s6,k6⟩:=(hf 6 25 6 1 rfl Zto).slice Tryz.underlying25 sz3 by3 elR_3;have e : cs=(cs.drop 0).take 1 ++ (cs.drop 1).take 1 ++ (cs.drop 2).take 1 ++ (cs.drop 3).take 1 ++ (cs.drop 4).take 1 ++ (cs.drop 5).take 1 ++ (cs.drop 6).take 1:=by
    match cs,hl with
    | [c0,c1,c2,c3,c4,c5,c6],_=>rfl
  rw [h0,h1,h2,h3,h4,h5,h6] at e;exact⟨⟨z0,z1,z2,z3,z4,z5,z6⟩,⟨v2,v3,v4,v6,by rw [e];rfl,s2.r,s3.r,s4.r,s6.r⟩,k0,trivial,⟨s2.b,k2⟩,⟨s3.b,k3⟩,⟨s4.b,k4⟩,k5,⟨s6.b,k6⟩,trivial⟩
theorem rdArr {H : Type} {enc : TypeId × Value → H} {P : Program} {w : World} {t e n : Nat} {k : IntKind} {cs : List Value} (ht : P.underlying t=some (.array n e)) (hk : Xb P e=some 1) (hs : Xb P t=some n) (he : P.underlying e=some (.int k)) (h : Rd enc P w t cs) :
    ∃ v : Vector Int n,cs=v.toList.map (Value.int k) ∧ ∀ z ∈ v.toList,inK k z:=by
  obtain⟨hl,hx⟩:=h.array ht hk (by rw [Nat.mul_one];exact hs);obtain⟨zs,h1,h2,h3⟩:=Zuu (k:=k) (by rw [hl,Nat.mul_one]) fun i hi=>(hx i hi).int he
  exact⟨⟨zs.toArray,by simpa using h2⟩,by simpa using h1,by simpa using h3⟩
theorem rdArrB {H : Type} {enc : TypeId × Value → H} {P : Program} {w : World} {t e n : Nat} {cs : List Value} (ht : P.underlying t=some (.array n e)) (hk : Xb P e=some 1) (hs : Xb P t=some n) (he : P.underlying e=some (.int .u8)) (h : Rd enc P w t cs) :
    ∃ v : Vector UInt8 n,cs=v.toList.map (fun b : UInt8=>Value.int .u8 (b.toNat : Int)):=by
  obtain⟨v,h1,h2⟩:=rdArr ht hk hs he h;refine⟨v.map Wt,?_⟩;rw [h1,Vector.toList_map,List.map_map];refine List.map_congr_left fun z hz=>?_
  have hz:=h2 z hz;simp only [inK,Lit.wf,Bool.and_eq_true,decide_eq_true_eq] at hz;have g1 : IntKind.u8.min=0:=by decide
  have g2 : IntKind.u8.max=255:=by decide
  have:=eB_lit (z:=z) (by omega) (by omega);have h4 : eB (Wt z)=[.int .u8 ((Wt z).toNat : Int)]:=rfl;rw [h4] at this;exact (List.cons.inj this).1.symm
def okGProc (x : GProc) : Prop:=(∀ z ∈ x.Regs.toList,inK .u32 z) ∧ inK .u32 x.Pc ∧ inK .i64 x.State ∧ inK .i64 x.Prio ∧ inK .i64 x.Wait ∧ inK .i64 x.Obj ∧ True
theorem rd_GProc {H : Type} {enc : TypeId × Value → H} {w : World} {cs : List Value} (h : Rd enc Tryz.prog w 101 cs) : ∃ x : GProc,Qs Qc w cs x ∧ okGProc x:=by
  obtain⟨hl,hf⟩:=h.struct fl101 Wz;obtain⟨z0,h0,k0⟩:=rdArr (n:=16) Tryz.underlying99 sz96 sz99 Tryz.underlying96 (hf 0 99 0 16 rfl sz99);obtain⟨z1,h1,k1⟩:=(hf 1 96 16 1 rfl sz96).int Tryz.underlying96;obtain⟨z2,h2,k2⟩:=(hf 2 3 17 1 rfl sz3).int Tryz.underlying3;obtain⟨z3,h3,k3⟩:=(hf 3 3 18 1 rfl sz3).int Tryz.underlying3;obtain⟨z4,h4,k4⟩:=(hf 4 3 19 1 rfl sz3).int Tryz.underlying3;obtain⟨z5,h5,k5⟩:=(hf 5 3 20 1 rfl sz3).int Tryz.underlying3;have e : cs=(cs.drop 0).take 16 ++ (cs.drop 16).take 1 ++ (cs.drop 17).take 1 ++ (cs.drop 18).take 1 ++ (cs.drop 19).take 1 ++ (cs.drop 20).take 1:=by
    exact (List.take_of_length_le (show cs.length ≤ 21 by omega)).symm.trans (by show cs.take (16 + 1 + 1 + 1 + 1 + 1)=_;rw [List.take_add,List.take_add,List.take_add,List.take_add,List.take_add];rfl)
  rw [h0,h1,h2,h3,h4,h5] at e;exact⟨⟨z0,z1,z2,z3,z4,z5⟩,by rw [e];simp [Qs,Qc],k0,k1,k2,k3,k4,k5,trivial⟩
def okGTimer (x : GTimer) : Prop:=inK .i64 x.Proc ∧ inK .i64 x.Due ∧ True
theorem rd_GTimer {H : Type} {enc : TypeId × Value → H} {w : World} {cs : List Value} (h : Rd enc Tryz.prog w 113 cs) : ∃ x : GTimer,Qs Qi w cs x ∧ okGTimer x:=by
  obtain⟨hl,hf⟩:=h.struct fl113 Zax;obtain⟨z0,h0,k0⟩:=(hf 0 3 0 1 rfl sz3).int Tryz.underlying3;obtain⟨z1,h1,k1⟩:=(hf 1 3 1 1 rfl sz3).int Tryz.underlying3;have e : cs=(cs.drop 0).take 1 ++ (cs.drop 1).take 1:=by
    match cs,hl with
    | [c0,c1],_=>rfl
  rw [h0,h1] at e;exact⟨⟨z0,z1⟩,by rw [e];rfl,k0,k1,trivial⟩
def okGPort (x : GPort) : Prop:=(x.Msgs.length * 16 ≤ lim ∧ ∀ y0 ∈ x.Msgs,y0.size ≤ lim) ∧ inK .i64 x.Age ∧ True
theorem rd_GPort {H : Type} {enc : TypeId × Value → H} {w : World} {cs : List Value} (h : Rd enc Tryz.prog w 88 cs) : ∃ x : GPort,Zy w cs x ∧ okGPort x:=by
  obtain⟨hl,hf⟩:=h.struct fl88 Zfu;obtain⟨v0,z0,h0,s0,k0⟩:=(hf 0 86 0 1 rfl sz86).slice Tryz.underlying86 sz9 by9 (Zq4 Tryz.underlying9);obtain⟨z1,h1,k1⟩:=(hf 1 3 1 1 rfl sz3).int Tryz.underlying3;have e : cs=(cs.drop 0).take 1 ++ (cs.drop 1).take 1:=by
    match cs,hl with
    | [c0,c1],_=>rfl
  rw [h0,h1] at e;exact⟨⟨z0,z1⟩,⟨v0,by rw [e];rfl,s0.r⟩,⟨s0.b,k0⟩,k1,trivial⟩
def okGPage (x : GPage) : Prop:=inK .i64 x.Rights ∧ True ∧ True ∧ True
theorem rd_GPage {H : Type} {enc : TypeId × Value → H} {w : World} {cs : List Value} (h : Rd enc Tryz.prog w 80 cs) : ∃ x : GPage,Qs Zz w cs x ∧ okGPage x:=by
  obtain⟨hl,hf⟩:=h.struct fl80 Zcq;obtain⟨z0,h0,k0⟩:=(hf 0 3 0 1 rfl sz3).int Tryz.underlying3;obtain⟨z1,h1⟩:=(hf 1 4 1 1 rfl sz4).bool Tryz.underlying4;obtain⟨z2,h2⟩:=rdArrB (n:=64) Tryz.underlying78 sz5 Zrn Tryz.underlying5 (hf 2 78 2 64 rfl Zrn);have e : cs=(cs.drop 0).take 1 ++ (cs.drop 1).take 1 ++ (cs.drop 2).take 64:=by
    exact (List.take_of_length_le (show cs.length ≤ 66 by omega)).symm.trans (by show cs.take (1 + 1 + 64)=_;rw [List.take_add,List.take_add];rfl)
  rw [h0,h1,h2] at e;exact⟨⟨z0,z1,z2⟩,by rw [e];simp [Qs,Zz],k0,trivial,trivial,trivial⟩
def okGState (x : GState) : Prop:=inK .i64 x.Id ∧ inK .i64 x.Frame ∧ inK .i64 x.Epoch ∧ (x.Procs.length * 104 ≤ lim ∧ ∀ y0 ∈ x.Procs,okGProc y0) ∧ (x.Ready.length * 8 ≤ lim ∧ ∀ y0 ∈ x.Ready,inK .i64 y0) ∧ (x.Timers.length * 16 ≤ lim ∧ ∀ y0 ∈ x.Timers,okGTimer y0) ∧ (x.Up.length * 1 ≤ lim ∧ ∀ y0 ∈ x.Up,True) ∧ (x.Sems.length * 8 ≤ lim ∧ ∀ y0 ∈ x.Sems,inK .i64 y0) ∧ (x.Ports.length * 32 ≤ lim ∧ ∀ y0 ∈ x.Ports,okGPort y0) ∧ (x.Pages.length * 80 ≤ lim ∧ ∀ y0 ∈ x.Pages,okGPage y0) ∧ True
theorem rd_GState {H : Type} {enc : TypeId × Value → H} {w : World} {cs : List Value} (h : Rd enc Tryz.prog w 34 cs) : ∃ x : GState,Qa w cs x ∧ okGState x:=by
  obtain⟨hl,hf⟩:=h.struct fl34 Xu;obtain⟨z0,h0,k0⟩:=(hf 0 3 0 1 rfl sz3).int Tryz.underlying3;obtain⟨z1,h1,k1⟩:=(hf 1 3 1 1 rfl sz3).int Tryz.underlying3;obtain⟨z2,h2,k2⟩:=(hf 2 3 2 1 rfl sz3).int Tryz.underlying3;obtain⟨v3,z3,h3,s3,k3⟩:=(hf 3 28 3 1 rfl sz28).slice Tryz.underlying28 Wz by101 (fun ecs h _=>rd_GProc h);obtain⟨v4,z4,h4,s4,k4⟩:=(hf 4 25 4 1 rfl Zto).slice Tryz.underlying25 sz3 by3 elR_3;obtain⟨v5,z5,h5,s5,k5⟩:=(hf 5 29 5 1 rfl sz29).slice Tryz.underlying29 Zax by113 (fun ecs h _=>rd_GTimer h);obtain⟨v6,z6,h6,s6,k6⟩:=(hf 6 30 6 1 rfl sz30).slice Tryz.underlying30 sz4 by4 (Zuv Tryz.underlying4);obtain⟨v7,z7,h7,s7,k7⟩:=(hf 7 25 7 1 rfl Zto).slice Tryz.underlying25 sz3 by3 elR_3;obtain⟨v8,z8,h8,s8,k8⟩:=(hf 8 31 8 1 rfl sz31).slice Tryz.underlying31 Zfu by88 (fun ecs h _=>rd_GPort h);obtain⟨v9,z9,h9,s9,k9⟩:=(hf 9 32 9 1 rfl Ztp).slice Tryz.underlying32 Zcq by80 (fun ecs h _=>rd_GPage h);have e : cs=(cs.drop 0).take 1 ++ (cs.drop 1).take 1 ++ (cs.drop 2).take 1 ++ (cs.drop 3).take 1 ++ (cs.drop 4).take 1 ++ (cs.drop 5).take 1 ++ (cs.drop 6).take 1 ++ (cs.drop 7).take 1 ++ (cs.drop 8).take 1 ++ (cs.drop 9).take 1:=by
    match cs,hl with
    | [c0,c1,c2,c3,c4,c5,c6,c7,c8,c9],_=>rfl
  rw [h0,h1,h2,h3,h4,h5,h6,h7,h8,h9] at e;exact⟨⟨z0,z1,z2,z3,z4,z5,z6,z7,z8,z9⟩,⟨v3,v4,v5,v6,v7,v8,v9,by rw [e];rfl,s3.r,s4.r,s5.r,s6.r,s7.r,s8.r,s9.r⟩,k0,k1,k2,⟨s3.b,k3⟩,⟨s4.b,k4⟩,⟨s5.b,k5⟩,⟨s6.b,k6⟩,⟨s7.b,k7⟩,⟨s8.b,k8⟩,⟨s9.b,k9⟩,trivial⟩
def okGL17Write (x : GL17Write) : Prop:=inK .i64 x.Page ∧ inK .i64 x.At ∧ inK .u8 x.Byte ∧ True
theorem rd_GL17Write {H : Type} {enc : TypeId × Value → H} {w : World} {cs : List Value} (h : Rd enc Tryz.prog w 107 cs) : ∃ x : GL17Write,Qs Zev w cs x ∧ okGL17Write x:=by
  obtain⟨hl,hf⟩:=h.struct fl107 Zrt;obtain⟨z0,h0,k0⟩:=(hf 0 3 0 1 rfl sz3).int Tryz.underlying3;obtain⟨z1,h1,k1⟩:=(hf 1 3 1 1 rfl sz3).int Tryz.underlying3;obtain⟨z2,h2,k2⟩:=(hf 2 5 2 1 rfl sz5).int Tryz.underlying5;have e : cs=(cs.drop 0).take 1 ++ (cs.drop 1).take 1 ++ (cs.drop 2).take 1:=by
    match cs,hl with
    | [c0,c1,c2],_=>rfl
  rw [h0,h1,h2] at e;exact⟨⟨z0,z1,z2⟩,by rw [e];rfl,k0,k1,k2,trivial⟩
theorem okPlan_of {p : GPlan} (h : okGPlan p) : Zvp p:=by
  have hm : lim ≤ Zr1:=by decide
  obtain⟨_,_,g1,g2,g3,_,g4,_⟩:=h;exact⟨Nat.le_trans g1.1 hm,Nat.le_trans g2.1 hm,Nat.le_trans g3.1 hm,Nat.le_trans g4.1 hm⟩
theorem okS_of {s : GState} (h : okGState s) : OkS s:=by
  have hm : lim ≤ 140737488355328:=by decide
  obtain⟨_,_,_,h1,h2,h3,h4,h5,h6,h7,_⟩:=h;exact⟨Nat.le_trans h1.1 hm,Nat.le_trans h2.1 hm,Nat.le_trans h3.1 hm,Nat.le_trans h4.1 hm,Nat.le_trans h5.1 hm,Nat.le_trans h7.1 hm,Nat.le_trans h6.1 hm,fun x hx=>Nat.le_trans (h6.2 x hx).1.1 hm⟩
theorem sum_ones {α : Type} : ∀ l : List α,(l.map fun _=>1).sum=l.length
  | []=>rfl
  | x :: r=>by simp only [List.map_cons,List.sum_cons,List.length_cons,sum_ones r];omega
theorem sum_memL {α : Type} {m : α → Nat} : ∀ {l : List α} {x : α},x ∈ l → m x ≤ (l.map m).sum
  | [],x,h=>by cases h
  | y :: r,x,h=>by
    rcases List.mem_cons.1 h with rfl|h
    · simp
    · have:=sum_memL (m:=m) h;simp only [List.map_cons,List.sum_cons];omega
theorem elS {H : Type} {enc : TypeId × Value → H} {w : World} (ecs : List Value) (c : Nat) (h : RdB enc Tryz.prog w 34 ecs c) (hl : ecs.length=10) : ∃ x : GState,Qa w ecs x ∧ okGState x ∧ 1 ≤ c:=by
  obtain⟨x,h1,h2⟩:=rd_GState h.rd;exact⟨x,h1,h2,h.pos⟩
theorem elw {H : Type} {enc : TypeId × Value → H} {w : World} (ecs : List Value) (c : Nat) (h : RdB enc Tryz.prog w 107 ecs c) (hl : ecs.length=3) : ∃ x : GL17Write,Qs Zev w ecs x ∧ okGL17Write x ∧ 1 ≤ c:=by
  obtain⟨x,h1,h2⟩:=rd_GL17Write h.rd;exact⟨x,h1,h2,h.pos⟩
theorem elW {H : Type} {enc : TypeId × Value → H} {w : World} (ecs : List Value) (c : Nat) (h : RdB enc Tryz.prog w 74 ecs c) (_ : ecs.length=1) : ∃ x : List GL17Write,RSl 3 Zev w ecs x ∧ (∀ y ∈ x,okGL17Write y) ∧ x.length + 1 ≤ c:=by
  obtain⟨v,xs,hv,hs,hk,hm⟩:=h.slice (m:=fun _ : GL17Write=>1) Tryz.underlying74 Zrt by107 elw;rw [sum_ones] at hm;exact⟨xs,⟨v,hv,hs.r⟩,hk,hm⟩
theorem wrOk_of {ws : List (List GL17Write)} {b : Nat} (hb : (ws.map fun x : List GL17Write=>x.length + 1).sum ≤ b) (h1 : b ≤ 1048576) (h : ∀ x ∈ ws,∀ y ∈ x,okGL17Write y) : ∀ x ∈ ws,WrOk x:=fun x hx=>by
  have h2:=sum_memL (m:=fun x : List GL17Write=>x.length + 1) hx;refine⟨by omega,fun y hy=>?_⟩;have hk:=(h x hx y hy).2.2.1;simp only [inK,Lit.wf,Bool.and_eq_true,decide_eq_true_eq] at hk;have h3 : IntKind.u8.min=0:=by decide
  have h4 : IntKind.u8.max=255:=by decide
  omega
theorem Tryz.own : ownKnob Tryz.prog.godebug=none:=by kernel_rfl
theorem Tryz.laidOut : laidOutB Tryz.prog=true:=by kernel_rfl
theorem Tryz.starE : "*" ++ "errors.errorString" = "*errors.errorString" := by decide
theorem Tryz.rowE (u : TypeId) (h : Tryz.prog.typeName? 3 u = some "*errors.errorString") : u = 200 :=
  typeName_ptr_named (nm := "errors.errorString") (by rw [Tryz.starE]; kernel_rfl) (by kernel_rfl) (by decide) u (by rw [Tryz.starE]; exact h)
theorem Tryz.cE : Tryz.prog.cellsOf 221=1:=by kernel_rfl
theorem Tryz.cS : Tryz.prog.cellsOf 9=1:=by kernel_rfl
def specs : List (String × Nat × List UInt8) := [("ferry/api.ErrShort", 5, [116, 104, 101, 32, 98, 121, 116, 101, 115, 32, 101, 110, 100, 32, 116, 111, 111, 32, 101, 97, 114, 108, 121]), ("ferry/api.ErrRest", 6, [115, 111, 109, 101, 116, 104, 105, 110, 103, 32, 105, 115, 32, 108, 101, 102, 116, 32, 111, 118, 101, 114]), ("ferry/api.ErrTag", 7, [97, 110, 111, 116, 104, 101, 114, 32, 116, 97, 103, 32, 105, 115, 32, 119, 97, 110, 116, 101, 100]), ("ferry/api.ErrRange", 8, [97, 32, 110, 117, 109, 98, 101, 114, 32, 111, 117, 116, 32, 111, 102, 32, 105, 116, 115, 32, 114, 97, 110, 103, 101]), ("ferry/api.ErrLength", 9, [97, 32, 108, 101, 110, 103, 116, 104, 32, 116, 104, 97, 116, 32, 105, 115, 110, 39, 116, 32, 116, 104, 101, 32, 116, 104, 105, 110, 103, 39, 115]), ("ferry/api.ErrSum", 10, [116, 104, 101, 32, 99, 104, 101, 99, 107, 32, 115, 117, 109, 32, 105, 115, 32, 119, 114, 111, 110, 103]), ("ferry/api.ErrKind", 11, [110, 111, 32, 115, 117, 99, 104, 32, 107, 105, 110, 100]), ("ferry/api.ErrPlan", 4, [110, 111, 116, 32, 111, 102, 32, 116, 104, 105, 115, 32, 112, 108, 97, 110]), ("ferry/api.ErrState", 3, [116, 104, 101, 32, 115, 116, 97, 116, 101, 32, 98, 114, 101, 97, 107, 115, 32, 97, 32, 114, 117, 108, 101]), ("ferry/api.ErrBase", 0, [110, 111, 116, 32, 111, 118, 101, 114, 32, 116, 104, 105, 115, 32, 98, 97, 115, 101]), ("ferry/api.ErrSize", 12, [116, 111, 111, 32, 108, 97, 114, 103, 101]), ("ferry/api.ErrArg", 2, [97, 32, 119, 114, 111, 110, 103, 32, 97, 114, 103, 117, 109, 101, 110, 116]), ("ferry/api.ErrEnd", 1, [97, 32, 99, 111, 117, 110, 116, 101, 114, 32, 105, 115, 32, 97, 116, 32, 105, 116, 115, 32, 101, 110, 100]), ("ferry/api.ErrBusy", 13, [115, 111, 109, 101, 116, 104, 105, 110, 103, 32, 105, 115, 32, 117, 110, 100, 101, 114, 32, 119, 97, 121]), ("ferry/api.ErrDown", 14, [116, 104, 101, 32, 109, 111, 100, 117, 108, 101, 32, 105, 115, 32, 100, 111, 119, 110]), ("ferry/api.ErrLost", 15, [116, 104, 101, 32, 112, 97, 114, 116, 105, 116, 105, 111, 110, 32, 105, 115, 32, 108, 111, 115, 116]), ("ferry/api.ErrNone", 16, [116, 104, 101, 114, 101, 32, 105, 115, 32, 110, 111, 110, 101]), ("ferry/api.ErrText", 17, [97, 32, 116, 101, 120, 116, 32, 116, 104, 97, 116, 32, 105, 115, 110, 39, 116, 32, 111, 102, 32, 116, 104, 101, 32, 108, 97, 110, 103, 117, 97, 103, 101]), ("ferry/api.ErrStop", 18, [99, 97, 110, 99, 101, 108, 108, 101, 100]), ("ferry/api.ErrDivide", 19, [100, 105, 118, 105, 115, 105, 111, 110, 32, 98, 121, 32, 122, 101, 114, 111])]
def setc (v : Value) : Obj → Obj
  | .cells _ t fr=>.cells #[v] t fr
  | o=>o
noncomputable def lowB : Nat:=(World.holding Tryz.prog default ⟨#[],#[],[]⟩).heap.size
noncomputable def laidWorld (os : Os) : World:=
  let w0:=World.holding Tryz.prog os ⟨#[.cells #[.string ⟨#[116,104,101,32,98,121,116,101,115,32,101,110,100,32,116,111,111,32,101,97,114,108,121]⟩] 221,.cells #[.string ⟨#[115,111,109,101,116,104,105,110,103,32,105,115,32,108,101,102,116,32,111,118,101,114]⟩] 221,.cells #[.string ⟨#[97,110,111,116,104,101,114,32,116,97,103,32,105,115,32,119,97,110,116,101,100]⟩] 221,.cells #[.string ⟨#[97,32,110,117,109,98,101,114,32,111,117,116,32,111,102,32,105,116,115,32,114,97,110,103,101]⟩] 221,.cells #[.string ⟨#[97,32,108,101,110,103,116,104,32,116,104,97,116,32,105,115,110,39,116,32,116,104,101,32,116,104,105,110,103,39,115]⟩] 221,.cells #[.string ⟨#[116,104,101,32,99,104,101,99,107,32,115,117,109,32,105,115,32,119,114,111,110,103]⟩] 221,.cells #[.string ⟨#[110,111,32,115,117,99,104,32,107,105,110,100]⟩] 221,.cells #[.string ⟨#[110,111,116,32,111,102,32,116,104,105,115,32,112,108,97,110]⟩] 221,.cells #[.string ⟨#[116,104,101,32,115,116,97,116,101,32,98,114,101,97,107,115,32,97,32,114,117,108,101]⟩] 221,.cells #[.string ⟨#[110,111,116,32,111,118,101,114,32,116,104,105,115,32,98,97,115,101]⟩] 221,.cells #[.string ⟨#[116,111,111,32,108,97,114,103,101]⟩] 221,.cells #[.string ⟨#[97,32,119,114,111,110,103,32,97,114,103,117,109,101,110,116]⟩] 221,.cells #[.string ⟨#[97,32,99,111,117,110,116,101,114,32,105,115,32,97,116,32,105,116,115,32,101,110,100]⟩] 221,.cells #[.string ⟨#[115,111,109,101,116,104,105,110,103,32,105,115,32,117,110,100,101,114,32,119,97,121]⟩] 221,.cells #[.string ⟨#[116,104,101,32,109,111,100,117,108,101,32,105,115,32,100,111,119,110]⟩] 221,.cells #[.string ⟨#[116,104,101,32,112,97,114,116,105,116,105,111,110,32,105,115,32,108,111,115,116]⟩] 221,.cells #[.string ⟨#[116,104,101,114,101,32,105,115,32,110,111,110,101]⟩] 221,.cells #[.string ⟨#[97,32,116,101,120,116,32,116,104,97,116,32,105,115,110,39,116,32,111,102,32,116,104,101,32,108,97,110,103,117,97,103,101]⟩] 221,.cells #[.string ⟨#[99,97,110,99,101,108,108,101,100]⟩] 221,.cells #[.string ⟨#[100,105,118,105,115,105,111,110,32,98,121,32,122,101,114,111]⟩] 221],#[],[]⟩
  { w0 with heap:=(((((((((((((((((((((w0.heap.modify 5 (setc (.iface 200 (.pointer (some ⟨lowB + 0,0,none⟩))))).modify 6 (setc (.iface 200 (.pointer (some ⟨lowB + 1,0,none⟩))))).modify 7 (setc (.iface 200 (.pointer (some ⟨lowB + 2,0,none⟩))))).modify 8 (setc (.iface 200 (.pointer (some ⟨lowB + 3,0,none⟩))))).modify 9 (setc (.iface 200 (.pointer (some ⟨lowB + 4,0,none⟩))))).modify 10 (setc (.iface 200 (.pointer (some ⟨lowB + 5,0,none⟩))))).modify 11 (setc (.iface 200 (.pointer (some ⟨lowB + 6,0,none⟩))))).modify 4 (setc (.iface 200 (.pointer (some ⟨lowB + 7,0,none⟩))))).modify 3 (setc (.iface 200 (.pointer (some ⟨lowB + 8,0,none⟩))))).modify 0 (setc (.iface 200 (.pointer (some ⟨lowB + 9,0,none⟩))))).modify 12 (setc (.iface 200 (.pointer (some ⟨lowB + 10,0,none⟩))))).modify 2 (setc (.iface 200 (.pointer (some ⟨lowB + 11,0,none⟩))))).modify 1 (setc (.iface 200 (.pointer (some ⟨lowB + 12,0,none⟩))))).modify 13 (setc (.iface 200 (.pointer (some ⟨lowB + 13,0,none⟩))))).modify 14 (setc (.iface 200 (.pointer (some ⟨lowB + 14,0,none⟩))))).modify 15 (setc (.iface 200 (.pointer (some ⟨lowB + 15,0,none⟩))))).modify 16 (setc (.iface 200 (.pointer (some ⟨lowB + 16,0,none⟩))))).modify 17 (setc (.iface 200 (.pointer (some ⟨lowB + 17,0,none⟩))))).modify 18 (setc (.iface 200 (.pointer (some ⟨lowB + 18,0,none⟩))))).modify 19 (setc (.iface 200 (.pointer (some ⟨lowB + 19,0,none⟩))))).modify 20 (setc (.iface 156 (.agg #[.pointer (some ⟨21,39,none⟩)])))) }
set_option maxRecDepth 100000 in
theorem laidWorld_met (os : Os) (args : Array Value) : laidMetH Tryz.prog Rows.epochChainsUptoRow.laid ((laidWorld os).forCall (fun _ _=>0) ⟨#[],args,[]⟩).memory:=
  laidMetH_of_parts (laidMet_of_run (ps:=[.cell 5 0,.cell (lowB + 0) 0,.cell 6 0,.cell (lowB + 1) 0,.cell 7 0,.cell (lowB + 2) 0,.cell 8 0,.cell (lowB + 3) 0,.cell 9 0,.cell (lowB + 4) 0,.cell 10 0,.cell (lowB + 5) 0,.cell 11 0,.cell (lowB + 6) 0,.cell 4 0,.cell (lowB + 7) 0,.cell 3 0,.cell (lowB + 8) 0,.cell 0 0,.cell (lowB + 9) 0,.cell 12 0,.cell (lowB + 10) 0,.cell 2 0,.cell (lowB + 11) 0,.cell 1 0,.cell (lowB + 12) 0,.cell 13 0,.cell (lowB + 13) 0,.cell 14 0,.cell (lowB + 14) 0,.cell 15 0,.cell (lowB + 15) 0,.cell 16 0,.cell (lowB + 16) 0,.cell 17 0,.cell (lowB + 17) 0,.cell 18 0,.cell (lowB + 18) 0,.cell 19 0,.cell (lowB + 19) 0]) 8 (by kernel_rfl) (by kernel_rfl) (by kernel_rfl)) (by kernel_rfl)
theorem vars_of {W : World} (h : laidMetH Tryz.prog Rows.epochChainsUptoRow.laid W) : ∃ A, GV 200 (specs.map (·.2.1)) A W := by
  obtain ⟨ps, h1, h2, h3⟩ := (laidMetH_iff.1 h).1;obtain ⟨ads, hG, _⟩ := Zq5 (nm := "*errors.errorString") Tryz.underlying39 Tryz.rowE Tryz.underlying200 Tryz.underlying221 rfl rfl Tryz.underlying9 Tryz.cE Tryz.cS specs ps h1 h2 h3 (by
    intro x hx;simp only [specs, List.mem_cons, List.not_mem_nil, or_false] at hx
    rcases hx with rfl | rfl | rfl | rfl | rfl | rfl | rfl | rfl | rfl | rfl | rfl | rfl | rfl | rfl | rfl | rfl | rfl | rfl | rfl | rfl
    all_goals exact ⟨by kernel_rfl, by kernel_rfl⟩)
  exact hG.f (by decide)
theorem Tryz.rt : (Tryz.prog.cutTypes.find? (·.1 == "internal/reflectlite.rtype")).map (·.2) = some 156 := by kernel_rfl
theorem Tryz.oneRow : ((List.range 233).filter fun t=>Tryz.prog.rowNamed t [101,114,114,111,114])=[39]:=by kernel_rfl
theorem Tryz.tsize : Tryz.prog.types.size=233:=by kernel_rfl
theorem Tryz.etG : Tryz.prog.globalNamed "errors.errorType" = some 20 := by kernel_rfl
theorem handle_of {W : World} (h : laidMetH Tryz.prog Rows.epochChainsUptoRow.laid W) : W.cell? ⟨20, 0, none⟩ = some (.iface 156 (.agg #[.pointer (some ⟨21, 39, none⟩)])) := by
  have hx := (laidMetH_iff.1 h).2 ("errors.errorType", Rows.laid_errors_errorType) (List.mem_filter.2 ⟨by unfold Rows.epochChainsUptoRow; exact List.mem_cons_self, by kernel_rfl⟩);have hn : (Rows.laid_errors_errorType (H := Unit)).funcsIn? = none := by kernel_rfl
  simp only [hn] at hx;obtain ⟨name, u, ty, e1, e2, e3, e4, e5⟩ := hx;have en : name = [101, 114, 114, 111, 114] := (Option.some.inj ((show (Rows.laid_errors_errorType (H := Unit)).handleName? = some [101, 114, 114, 111, 114] by kernel_rfl).symm.trans e1)).symm;subst en;obtain rfl := Option.some.inj (Tryz.rt.symm.trans e2);have hm : ty ∈ (List.range 233).filter fun t => Tryz.prog.rowNamed t [101, 114, 114, 111, 114] := List.mem_filter.2 ⟨List.mem_range.2 (by rw [← Tryz.tsize]; exact e3), e4⟩
  rw [Tryz.oneRow] at hm;obtain rfl := List.mem_singleton.1 hm;have hh : typeHandle Tryz.prog 39 = .pointer (some ⟨21, 39, none⟩) := by kernel_rfl
  rw [hh] at e5
  simpa using World.var?_cell Tryz.etG e5 0
set_option maxRecDepth 100000 in
theorem epochChainsUpto_reads (os : Os) {H : Type} (enc : TypeId × Value → H) : ∃ places,DataW.whole enc Tryz.prog ((laidWorld os).forCall (fun _ _=>0) ⟨#[],#[.agg #[.int .i64 0,.bool false,.slice none 0 0,.slice none 0 0,.slice none 0 0,.int .i64 0,.slice none 0 0],.slice none 0 0,.slice none 0 0],[]⟩).memory Tryz.f5.params.toList Rows.epochChainsSpec.vars false (#[.agg #[.int .i64 0,.bool false,.slice none 0 0,.slice none 0 0,.slice none 0 0,.int .i64 0,.slice none 0 0],.slice none 0 0,.slice none 0 0] : Array Value).toList 8=some ([.agg [.lit (.int .i64 0),.lit (.bool false),.nil,.nil,.nil,.lit (.int .i64 0),.nil],.nil,.nil],[],places):=
  ⟨[],by kernel_rfl⟩
set_option maxRecDepth 100000 in
set_option maxHeartbeats 1000000 in
theorem epochChainsUpto_lifted (os : Os) (started : os.Started) (H : Type) (enc : TypeId × Value → H) (F : Stop.Interp) :
    ReturnsInHanded {} Tryz.checked os 5 .any ((Rows.OpenSpec.upto Rows.epochChainsSpec).preRow enc Tryz.prog Tryz.f5 Rows.epochChainsUptoRow.domain false Rows.epochChainsUptoRow.laid) (((Rows.OpenSpec.upto Rows.epochChainsSpec).at F).post enc Tryz.prog Tryz.f5 false true false false):=by
  obtain⟨places,hx⟩:=epochChainsUpto_reads os enc
  refine returnsInHanded_of_row (C:=Tryz.checked) (s:=Rows.OpenSpec.upto Rows.epochChainsSpec) Tryz.own started (by kernel_rfl) Tryz.func5
    (witness_row_at (enc:=enc) (C:=Tryz.checked) false (laidWorld os) #[.agg #[.int .i64 0,.bool false,.slice none 0 0,.slice none 0 0,.slice none 0 0,.int .i64 0,.slice none 0 0],.slice none 0 0,.slice none 0 0] rfl (by kernel_rfl) (by kernel_rfl) (by kernel_rfl)
      (OpenSpec.preRow_of_cond 8 hx (by kernel_rfl) (fun k hk=>by cases hk;kernel_rfl) (by kernel_rfl) (laidWorld_met os _))) ?_
  intro W base args ds gs Zir hval0 hW _ hcond hsz0 hL _ _
  have hsz : (DataW.weightsEach Tryz.prog (Tryz.f5.params.toList ++ Rows.epochChainsSpec.plain.varTypes Tryz.prog) (ds ++ gs)).all (· ≤ reachBytes)=true:=hsz0
  have hsm:=Zt6 (hcond _ rfl)
  clear hsz0 hcond
  have hval : ∀ (j : Nat) t v,Tryz.f5.params[j]? = some t → args[j]? = some v → Value.okWide Tryz.prog W .any base t v:=hval0
  have hW':=hW
  obtain⟨p,q,hA0,hV,rfl,_,_⟩:=hW
  have hA : DataW.TrodAll enc Tryz.prog W 0 (fun _=>true) true Tryz.f5.params.toList args.toList ds p:=hA0
  rw [Tryz.params5] at hA hval hsz
  obtain⟨v0,v1,v2,d0,d1,d2,p0,p1,p2,rfl,rfl,rfl,h0,h1,h2⟩:=trodAll_three hA
  obtain⟨rfl,rfl⟩:=trodVars_none hV
  clear hA0 hval0
  simp only [List.append_nil] at hW' hsm
  simp only [List.map_cons,List.map_nil,List.sum_cons,List.sum_nil] at hsm
  have r0:=RdB.of (ts:=_) (ds:=_) (j:=0) h0 hsz rfl rfl
  obtain⟨ar0,rfl,_⟩:=okWide_struct Tryz.underlying27 (hval 0 27 v0 rfl rfl)
  obtain⟨cs0,rfl⟩ : ∃ l : List Value,ar0=l.toArray:=⟨ar0.toList,by simp⟩
  obtain⟨x0,hx0,ok0⟩:=rd_GPlan (cs:=cs0) r0.rd
  have r1:=RdB.of (ts:=_) (ds:=_) (j:=1) h1 hsz rfl rfl
  obtain⟨sv1,x1,hz1,hs1,kz1,mz1⟩:=r1.slice (m:=(fun _ : GState=>1)) Tryz.underlying67 Xu by34 (elS)
  obtain⟨sa1,sl1,sc1,rfl⟩:=okWide_slice Tryz.underlying67 (hval 1 67 v1 rfl rfl)
  have q1 : [Value.slice sa1 sl1 sc1]=[sv1]:=hz1
  obtain rfl : .slice sa1 sl1 sc1=sv1:=(List.cons.inj q1).1
  have r2:=RdB.of (ts:=_) (ds:=_) (j:=2) h2 hsz rfl rfl
  obtain⟨sv2,x2,hz2,hs2,kz2,mz2⟩:=r2.slice (m:=(fun ws : List GL17Write=>ws.length + 1)) Tryz.underlying68 sz74 by74 (elW)
  obtain⟨sa2,sl2,sc2,rfl⟩:=okWide_slice Tryz.underlying68 (hval 2 68 v2 rfl rfl)
  have q2 : [Value.slice sa2 sl2 sc2]=[sv2]:=hz2
  obtain rfl : .slice sa2 sl2 sc2=sv2:=(List.cons.inj q2).1
  have hlt0 : ∀ x ∈ p0,x.block < W.heap.size:=fun x hx=>hW'.lt x (by simp [hx])
  have ha0 : ∀ (W' : World),Below W.heap.size W W' → DataW.Trod enc Tryz.prog W' 0 (fun b=>decide (b < W.heap.size)) true 27 _ d0 p0:=
    fun W' hn=>Below.trod Tryz.laidOut (by kernel_rfl) (of_decide_eq_true (by kernel_rfl)) h0 hn hlt0
  have hlt1 : ∀ x ∈ p1,x.block < W.heap.size:=fun x hx=>hW'.lt x (by simp [hx])
  have ha1 : ∀ (W' : World),Below W.heap.size W W' → DataW.Trod enc Tryz.prog W' 0 (fun b=>decide (b < W.heap.size)) true 67 _ d1 p1:=
    fun W' hn=>Below.trod Tryz.laidOut (by kernel_rfl) (of_decide_eq_true (by kernel_rfl)) h1 hn hlt1
  have hlt2 : ∀ x ∈ p2,x.block < W.heap.size:=fun x hx=>hW'.lt x (by simp [hx])
  have ha2 : ∀ (W' : World),Below W.heap.size W W' → DataW.Trod enc Tryz.prog W' 0 (fun b=>decide (b < W.heap.size)) true 68 _ d2 p2:=
    fun W' hn=>Below.trod Tryz.laidOut (by kernel_rfl) (of_decide_eq_true (by kernel_rfl)) h2 hn hlt2
  obtain⟨A,hG⟩:=vars_of hL
  have hH:=handle_of hL
  have hsl : x1.length ≤ 1048576:=by have:=sum_ones x1;omega
  have hwr:=wrOk_of (ws:=x2) (Nat.le_refl _) (by omega) kz2
  refine (Zgq (A:=A) (hG.sub (by decide)) hH hx0 hs1.r hs2.r (Zio x0 x1 x2 hsl (fun s hs=>okS_of (kz1 s hs)) hwr)).mono fun e W' ⟨v,he,hv,hnx⟩=>?_
  subst he;subst hv
  refine⟨_,rfl,_,_,_,[],_,[],hW',?_,trodAll_mk3 (ha0 _ hnx) (ha1 _ hnx) (ha2 _ hnx),rfl,hnx.frame _,fun h=>by cases h⟩
  exact trodAll_mk1 (shut_bool Tryz.underlying4 true)
theorem epochChainsUpto_holds : Rows.EpochChainsUptoSaid:=
  OpenClaim.holds_of_cond 5 Tryz.f5 rfl rfl rfl rfl rfl rfl rfl ⟨rfl,rfl,rfl,rfl,rfl⟩ rfl rfl rfl rfl rfl Zf4 Tryz.func5 Zft
    Zgw Zgx
    (fun os started H enc _ F=>by rw [OpenClaim.pre_eq_preRow];exact epochChainsUpto_lifted os started H enc F)
theorem epochChainsUpto_card_holds : Rows.EpochChainsUptoCardSaid :=
  Claim7.holds_tied_plain_at .later [] [.handle, .sentinel, .sentinel, .sentinel, .sentinel, .sentinel, .sentinel, .sentinel, .sentinel, .sentinel, .sentinel, .sentinel, .sentinel, .sentinel, .sentinel, .sentinel, .sentinel, .sentinel, .sentinel, .sentinel, .sentinel] true (true, "4f64f64ca673ebcd5766b287f8df16e8a2077b9226c29782b15cabb1ee3d6027") true
    epochChainsUpto_holds (fun _ h => by cases h) (by kernel_rfl) (fun _ h => by cases h) epochChainsUpto_row_tie rfl ⟨rfl, rfl⟩ (by kernel_rfl) rfl
    (fun f fn hf hfn => by
      obtain rfl : f = 5 := Option.some.inj ((show Tryz.prog.funcNamed "ferry/ferrylaw17.EpochChains" = some 5 by kernel_rfl).symm.trans hf) |>.symm;obtain rfl : fn = Tryz.f5 := (Option.some.inj (Tryz.func5.symm.trans hfn)).symm;exact ⟨by kernel_rfl, fun j t ht => by
        rw [Tryz.params5] at ht;have hm : t ∈ [27, 67, 68] := List.mem_of_getElem? (by simpa using ht);simp only [List.mem_cons, List.not_mem_nil, or_false] at hm
        rcases hm with rfl | rfl | rfl
        all_goals exact (by kernel_rfl : Tryz.prog.wantsStandIn _ = false)⟩)
    (by kernel_rfl)
end Go.Proofs.YtjekfpnpfllaoaaGreatDoor
