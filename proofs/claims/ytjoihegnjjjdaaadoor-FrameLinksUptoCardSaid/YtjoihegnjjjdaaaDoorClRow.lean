/- The law FrameLinks where what it reads is of bulk at most 1048576: it returns true, and the argument reads behind the call as it read before it; the listed variables are as the text lays them, which the card ties to the text. (written by wip/tools) -/
import Derived.Test.YtjoihegnjjjdaaaDoorFyL1
import Derived.Test.YtjoihegnjjjdaaaDoorLinkLFy
import Derived.Test.YtjoihegnjjjdaaaDoorClFact
import Derived.Test.YtjoihegnjjjdaaaDoorBulk
import Derived.Test.YtjoihegnjjjdaaaDoorGlob
import Derived.Test.YtjoihegnjjjdaaaDoorCards
import Derived.Test.YtjoihegnjjjdaaaDoorTie
import Derived.ChangeSame
import Derived.ChangeVars
import Derived.JoinedOf
import Derived.JoinedCond
import Derived.RowKit
import Derived.RowKitTokens
import Derived.LaidLaws
import Derived.LaidHandle
import Derived.LaidSub
import Derived.Stop.Joined
import Derived.SevenTiedAt
import Derived.Deep.DeepHandedRow
import Derived.OpenShut
set_option linter.unusedVariables false
set_option linter.unusedSimpArgs false
set_option maxRecDepth 10000
namespace Go.Proofs.YtjoihegnjjjdaaaDoor
open Go Go.RowKit
open Go.ChangeShapes Go.WideShapes Go.ChangeAt
theorem by105 : Tryd.prog.bytesOf 105 = 24 := by kernel_rfl
theorem by167 : Tryd.prog.bytesOf 167 = 24 := by kernel_rfl
theorem by169 : Tryd.prog.bytesOf 169 = 32 := by kernel_rfl
theorem by3 : Tryd.prog.bytesOf 3 = 8 := by kernel_rfl
theorem by4 : Tryd.prog.bytesOf 4 = 1 := by kernel_rfl
theorem by43 : Tryd.prog.bytesOf 43 = 24 := by kernel_rfl
theorem by47 : Tryd.prog.bytesOf 47 = 32 := by kernel_rfl
theorem by50 : Tryd.prog.bytesOf 50 = 24 := by kernel_rfl
theorem by68 : Tryd.prog.bytesOf 68 = 120 := by kernel_rfl
theorem by87 : Tryd.prog.bytesOf 87 = 24 := by kernel_rfl
theorem fl105 : fldsB Tryd.prog 105 = some [(3, 0), (3, 1), (3, 2)] := by kernel_rfl
theorem fl167 : fldsB Tryd.prog 167 = some [(3, 0), (3, 1), (4, 2)] := by kernel_rfl
theorem fl169 : fldsB Tryd.prog 169 = some [(3, 0), (3, 1), (3, 2), (3, 3)] := by kernel_rfl
theorem fl27 : fldsB Tryd.prog 27 = some [(3, 0), (22, 1), (23, 2), (24, 3), (25, 4), (3, 5)] := by kernel_rfl
theorem fl31 : fldsB Tryd.prog 31 = some [(27, 0), (27, 6), (23, 12), (28, 13), (29, 14)] := by kernel_rfl
theorem fl47 : fldsB Tryd.prog 47 = some [(3, 0), (3, 1), (3, 2), (3, 3)] := by kernel_rfl
theorem fl50 : fldsB Tryd.prog 50 = some [(3, 0), (9, 1)] := by kernel_rfl
theorem fl68 : fldsB Tryd.prog 68 = some [(3, 0), (4, 1), (64, 2), (65, 3), (66, 4), (3, 5), (23, 6)] := by kernel_rfl
theorem fl87 : fldsB Tryd.prog 87 = some [(3, 0), (9, 1)] := by kernel_rfl
theorem sz28 : sizeB Tryd.prog 28 = some 1 := by kernel_rfl
theorem sz29 : sizeB Tryd.prog 29 = some 1 := by kernel_rfl
theorem sz31 : sizeB Tryd.prog 31 = some 15 := by kernel_rfl
theorem sz9 : sizeB Tryd.prog 9 = some 1 := by kernel_rfl

def okGPagePlan (x : GPagePlan) : Prop := inK .i64 x.Rights ∧ True ∧ True
def bkGPagePlan (x : GPagePlan) : Nat := 1 + (x.Init.size + 1) + 1
theorem rb_GPagePlan {H : Type} {enc : TypeId × Value → H} {w : World} {cs : List Value} {b : Nat} (h : RdB enc Tryd.prog w 87 cs b) : ∃ x : GPagePlan, Flat eGPagePlan w cs x ∧ okGPagePlan x ∧ bkGPagePlan x ≤ b := by
  obtain ⟨hl, bs, hbl, hbs, hf⟩ := h.struct fl87 sz87
  obtain ⟨c0, hc0, r0⟩ := hf 0 3 0 1 rfl sz3
  have m0 := r0.pos
  obtain ⟨z0, h0, k0⟩ := r0.rd.int Tryd.underlying3
  obtain ⟨c1, hc1, r1⟩ := hf 1 9 1 1 rfl sz9
  obtain ⟨z1, h1, m1⟩ := r1.string Tryd.underlying9
  have e : cs = (cs.drop 0).take 1 ++ (cs.drop 1).take 1 := by
    match cs, hl with
    | [cc0, cc1], _ => rfl
  rw [h0, h1] at e
  refine ⟨⟨z0, z1⟩, by rw [e]; rfl, ⟨k0, trivial, trivial⟩, ?_⟩
  clear hf e
  match bs, hbl with
  | [b0, b1], _ =>
    simp only [List.getElem?_cons_zero, List.getElem?_cons_succ, Option.some.injEq, List.sum_cons, List.sum_nil] at hc0 hc1 hbs
    have : bkGPagePlan ⟨z0, z1⟩ = 1 + (z1.size + 1) + 1 := rfl
    omega
def okGProcPlan (x : GProcPlan) : Prop := inK .i64 x.Entry ∧ inK .i64 x.Prio ∧ True ∧ True
def bkGProcPlan (x : GProcPlan) : Nat := 1 + 1 + 1 + 1
theorem rb_GProcPlan {H : Type} {enc : TypeId × Value → H} {w : World} {cs : List Value} {b : Nat} (h : RdB enc Tryd.prog w 167 cs b) : ∃ x : GProcPlan, Flat eGProcPlan w cs x ∧ okGProcPlan x ∧ bkGProcPlan x ≤ b := by
  obtain ⟨hl, bs, hbl, hbs, hf⟩ := h.struct fl167 sz167
  obtain ⟨c0, hc0, r0⟩ := hf 0 3 0 1 rfl sz3
  have m0 := r0.pos
  obtain ⟨z0, h0, k0⟩ := r0.rd.int Tryd.underlying3
  obtain ⟨c1, hc1, r1⟩ := hf 1 3 1 1 rfl sz3
  have m1 := r1.pos
  obtain ⟨z1, h1, k1⟩ := r1.rd.int Tryd.underlying3
  obtain ⟨c2, hc2, r2⟩ := hf 2 4 2 1 rfl sz4
  have m2 := r2.pos
  obtain ⟨z2, h2⟩ := r2.rd.bool Tryd.underlying4
  have e : cs = (cs.drop 0).take 1 ++ (cs.drop 1).take 1 ++ (cs.drop 2).take 1 := by
    match cs, hl with
    | [cc0, cc1, cc2], _ => rfl
  rw [h0, h1, h2] at e
  refine ⟨⟨z0, z1, z2⟩, by rw [e]; rfl, ⟨k0, k1, trivial, trivial⟩, ?_⟩
  clear hf e
  match bs, hbl with
  | [b0, b1, b2], _ =>
    simp only [List.getElem?_cons_zero, List.getElem?_cons_succ, Option.some.injEq, List.sum_cons, List.sum_nil] at hc0 hc1 hc2 hbs
    have : bkGProcPlan ⟨z0, z1, z2⟩ = 1 + 1 + 1 + 1 := rfl
    omega
def okGPortPlan (x : GPortPlan) : Prop := inK .i64 x.Kind ∧ inK .i64 x.Size ∧ inK .i64 x.Depth ∧ inK .i64 x.Refresh ∧ True
def bkGPortPlan (x : GPortPlan) : Nat := 1 + 1 + 1 + 1 + 1
theorem rb_GPortPlan {H : Type} {enc : TypeId × Value → H} {w : World} {cs : List Value} {b : Nat} (h : RdB enc Tryd.prog w 169 cs b) : ∃ x : GPortPlan, Flat eGPortPlan w cs x ∧ okGPortPlan x ∧ bkGPortPlan x ≤ b := by
  obtain ⟨hl, bs, hbl, hbs, hf⟩ := h.struct fl169 sz169
  obtain ⟨c0, hc0, r0⟩ := hf 0 3 0 1 rfl sz3
  have m0 := r0.pos
  obtain ⟨z0, h0, k0⟩ := r0.rd.int Tryd.underlying3
  obtain ⟨c1, hc1, r1⟩ := hf 1 3 1 1 rfl sz3
  have m1 := r1.pos
  obtain ⟨z1, h1, k1⟩ := r1.rd.int Tryd.underlying3
  obtain ⟨c2, hc2, r2⟩ := hf 2 3 2 1 rfl sz3
  have m2 := r2.pos
  obtain ⟨z2, h2, k2⟩ := r2.rd.int Tryd.underlying3
  obtain ⟨c3, hc3, r3⟩ := hf 3 3 3 1 rfl sz3
  have m3 := r3.pos
  obtain ⟨z3, h3, k3⟩ := r3.rd.int Tryd.underlying3
  have e : cs = (cs.drop 0).take 1 ++ (cs.drop 1).take 1 ++ (cs.drop 2).take 1 ++ (cs.drop 3).take 1 := by
    match cs, hl with
    | [cc0, cc1, cc2, cc3], _ => rfl
  rw [h0, h1, h2, h3] at e
  refine ⟨⟨z0, z1, z2, z3⟩, by rw [e]; rfl, ⟨k0, k1, k2, k3, trivial⟩, ?_⟩
  clear hf e
  match bs, hbl with
  | [b0, b1, b2, b3], _ =>
    simp only [List.getElem?_cons_zero, List.getElem?_cons_succ, Option.some.injEq, List.sum_cons, List.sum_nil] at hc0 hc1 hc2 hc3 hbs
    have : bkGPortPlan ⟨z0, z1, z2, z3⟩ = 1 + 1 + 1 + 1 + 1 := rfl
    omega
theorem elB_3 {H : Type} {enc : TypeId × Value → H} {w : World} (ecs : List Value) (c : Nat) (h : RdB enc Tryd.prog w 3 ecs c) (_ : ecs.length = 1) : ∃ x : Int, Flat eI w ecs x ∧ inK .i64 x ∧ 1 ≤ c := by
  have hp := h.pos
  obtain ⟨z, rfl, hz⟩ := h.rd.int Tryd.underlying3
  exact ⟨z, rfl, hz, hp⟩
def okGPlan (x : GPlan) : Prop := inK .i64 x.Id ∧ True ∧ (∀ y0 ∈ x.Pages, okGPagePlan y0) ∧ (∀ y0 ∈ x.Procs, okGProcPlan y0) ∧ (∀ y0 ∈ x.Ports, okGPortPlan y0) ∧ inK .i64 x.Events ∧ (∀ y0 ∈ x.Sems, inK .i64 y0) ∧ True
def bkGPlan (x : GPlan) : Nat := 1 + 1 + ((x.Pages.map fun (y0 : GPagePlan) => (bkGPagePlan y0)).sum + 1) + ((x.Procs.map fun (y0 : GProcPlan) => (bkGProcPlan y0)).sum + 1) + ((x.Ports.map fun (y0 : GPortPlan) => (bkGPortPlan y0)).sum + 1) + 1 + ((x.Sems.map fun (y0 : Int) => 1).sum + 1) + 1
theorem rb_GPlan {H : Type} {enc : TypeId × Value → H} {w : World} {cs : List Value} {b : Nat} (h : RdB enc Tryd.prog w 68 cs b) : ∃ x : GPlan, RGPlan w cs x ∧ okGPlan x ∧ bkGPlan x ≤ b := by
  obtain ⟨hl, bs, hbl, hbs, hf⟩ := h.struct fl68 sz68
  obtain ⟨c0, hc0, r0⟩ := hf 0 3 0 1 rfl sz3
  have m0 := r0.pos
  obtain ⟨z0, h0, k0⟩ := r0.rd.int Tryd.underlying3
  obtain ⟨c1, hc1, r1⟩ := hf 1 4 1 1 rfl sz4
  have m1 := r1.pos
  obtain ⟨z1, h1⟩ := r1.rd.bool Tryd.underlying4
  obtain ⟨c2, hc2, r2⟩ := hf 2 64 2 1 rfl sz64
  obtain ⟨v2, z2, h2, s2, k2, m2⟩ := r2.slice (m := (fun (y0 : GPagePlan) => (bkGPagePlan y0))) Tryd.underlying64 sz87 by87 (fun ecs c h _ => rb_GPagePlan h)
  obtain ⟨c3, hc3, r3⟩ := hf 3 65 3 1 rfl sz65
  obtain ⟨v3, z3, h3, s3, k3, m3⟩ := r3.slice (m := (fun (y0 : GProcPlan) => (bkGProcPlan y0))) Tryd.underlying65 sz167 by167 (fun ecs c h _ => rb_GProcPlan h)
  obtain ⟨c4, hc4, r4⟩ := hf 4 66 4 1 rfl sz66
  obtain ⟨v4, z4, h4, s4, k4, m4⟩ := r4.slice (m := (fun (y0 : GPortPlan) => (bkGPortPlan y0))) Tryd.underlying66 sz169 by169 (fun ecs c h _ => rb_GPortPlan h)
  obtain ⟨c5, hc5, r5⟩ := hf 5 3 5 1 rfl sz3
  have m5 := r5.pos
  obtain ⟨z5, h5, k5⟩ := r5.rd.int Tryd.underlying3
  obtain ⟨c6, hc6, r6⟩ := hf 6 23 6 1 rfl sz23
  obtain ⟨v6, z6, h6, s6, k6, m6⟩ := r6.slice (m := (fun (y0 : Int) => 1)) Tryd.underlying23 sz3 by3 elB_3
  have e : cs = (cs.drop 0).take 1 ++ (cs.drop 1).take 1 ++ (cs.drop 2).take 1 ++ (cs.drop 3).take 1 ++ (cs.drop 4).take 1 ++ (cs.drop 5).take 1 ++ (cs.drop 6).take 1 := by
    match cs, hl with
    | [cc0, cc1, cc2, cc3, cc4, cc5, cc6], _ => rfl
  rw [h0, h1, h2, h3, h4, h5, h6] at e
  refine ⟨⟨z0, z1, z2, z3, z4, z5, z6⟩, ⟨v2, v3, v4, v6, by rw [e]; rfl, s2.r, s3.r, s4.r, s6.r⟩, ⟨k0, trivial, k2, k3, k4, k5, k6, trivial⟩, ?_⟩
  clear hf e
  match bs, hbl with
  | [b0, b1, b2, b3, b4, b5, b6], _ =>
    simp only [List.getElem?_cons_zero, List.getElem?_cons_succ, Option.some.injEq, List.sum_cons, List.sum_nil] at hc0 hc1 hc2 hc3 hc4 hc5 hc6 hbs
    have : bkGPlan ⟨z0, z1, z2, z3, z4, z5, z6⟩ = 1 + 1 + ((z2.map fun (y0 : GPagePlan) => (bkGPagePlan y0)).sum + 1) + ((z3.map fun (y0 : GProcPlan) => (bkGProcPlan y0)).sum + 1) + ((z4.map fun (y0 : GPortPlan) => (bkGPortPlan y0)).sum + 1) + 1 + ((z6.map fun (y0 : Int) => 1).sum + 1) + 1 := rfl
    omega
def okGWindow (x : GWindow) : Prop := inK .i64 x.Part ∧ inK .i64 x.Start ∧ inK .i64 x.Len ∧ True
def bkGWindow (x : GWindow) : Nat := 1 + 1 + 1 + 1
theorem rb_GWindow {H : Type} {enc : TypeId × Value → H} {w : World} {cs : List Value} {b : Nat} (h : RdB enc Tryd.prog w 105 cs b) : ∃ x : GWindow, Flat eGWindow w cs x ∧ okGWindow x ∧ bkGWindow x ≤ b := by
  obtain ⟨hl, bs, hbl, hbs, hf⟩ := h.struct fl105 sz105
  obtain ⟨c0, hc0, r0⟩ := hf 0 3 0 1 rfl sz3
  have m0 := r0.pos
  obtain ⟨z0, h0, k0⟩ := r0.rd.int Tryd.underlying3
  obtain ⟨c1, hc1, r1⟩ := hf 1 3 1 1 rfl sz3
  have m1 := r1.pos
  obtain ⟨z1, h1, k1⟩ := r1.rd.int Tryd.underlying3
  obtain ⟨c2, hc2, r2⟩ := hf 2 3 2 1 rfl sz3
  have m2 := r2.pos
  obtain ⟨z2, h2, k2⟩ := r2.rd.int Tryd.underlying3
  have e : cs = (cs.drop 0).take 1 ++ (cs.drop 1).take 1 ++ (cs.drop 2).take 1 := by
    match cs, hl with
    | [cc0, cc1, cc2], _ => rfl
  rw [h0, h1, h2] at e
  refine ⟨⟨z0, z1, z2⟩, by rw [e]; rfl, ⟨k0, k1, k2, trivial⟩, ?_⟩
  clear hf e
  match bs, hbl with
  | [b0, b1, b2], _ =>
    simp only [List.getElem?_cons_zero, List.getElem?_cons_succ, Option.some.injEq, List.sum_cons, List.sum_nil] at hc0 hc1 hc2 hbs
    have : bkGWindow ⟨z0, z1, z2⟩ = 1 + 1 + 1 + 1 := rfl
    omega
def okGLink (x : GLink) : Prop := inK .i64 x.From ∧ inK .i64 x.Out ∧ inK .i64 x.To ∧ inK .i64 x.In ∧ True
def bkGLink (x : GLink) : Nat := 1 + 1 + 1 + 1 + 1
theorem rb_GLink {H : Type} {enc : TypeId × Value → H} {w : World} {cs : List Value} {b : Nat} (h : RdB enc Tryd.prog w 47 cs b) : ∃ x : GLink, Flat eGLink w cs x ∧ okGLink x ∧ bkGLink x ≤ b := by
  obtain ⟨hl, bs, hbl, hbs, hf⟩ := h.struct fl47 sz47
  obtain ⟨c0, hc0, r0⟩ := hf 0 3 0 1 rfl sz3
  have m0 := r0.pos
  obtain ⟨z0, h0, k0⟩ := r0.rd.int Tryd.underlying3
  obtain ⟨c1, hc1, r1⟩ := hf 1 3 1 1 rfl sz3
  have m1 := r1.pos
  obtain ⟨z1, h1, k1⟩ := r1.rd.int Tryd.underlying3
  obtain ⟨c2, hc2, r2⟩ := hf 2 3 2 1 rfl sz3
  have m2 := r2.pos
  obtain ⟨z2, h2, k2⟩ := r2.rd.int Tryd.underlying3
  obtain ⟨c3, hc3, r3⟩ := hf 3 3 3 1 rfl sz3
  have m3 := r3.pos
  obtain ⟨z3, h3, k3⟩ := r3.rd.int Tryd.underlying3
  have e : cs = (cs.drop 0).take 1 ++ (cs.drop 1).take 1 ++ (cs.drop 2).take 1 ++ (cs.drop 3).take 1 := by
    match cs, hl with
    | [cc0, cc1, cc2, cc3], _ => rfl
  rw [h0, h1, h2, h3] at e
  refine ⟨⟨z0, z1, z2, z3⟩, by rw [e]; rfl, ⟨k0, k1, k2, k3, trivial⟩, ?_⟩
  clear hf e
  match bs, hbl with
  | [b0, b1, b2, b3], _ =>
    simp only [List.getElem?_cons_zero, List.getElem?_cons_succ, Option.some.injEq, List.sum_cons, List.sum_nil] at hc0 hc1 hc2 hc3 hbs
    have : bkGLink ⟨z0, z1, z2, z3⟩ = 1 + 1 + 1 + 1 + 1 := rfl
    omega
def okGConfig (x : GConfig) : Prop := inK .i64 x.Ticks ∧ (∀ y0 ∈ x.Parts, okGPlan y0) ∧ (∀ y0 ∈ x.Homes, inK .i64 y0) ∧ (∀ y0 ∈ x.Windows, okGWindow y0) ∧ (∀ y0 ∈ x.Links, okGLink y0) ∧ inK .i64 x.Tries ∧ True
def bkGConfig (x : GConfig) : Nat := 1 + ((x.Parts.map fun (y0 : GPlan) => (bkGPlan y0)).sum + 1) + ((x.Homes.map fun (y0 : Int) => 1).sum + 1) + ((x.Windows.map fun (y0 : GWindow) => (bkGWindow y0)).sum + 1) + ((x.Links.map fun (y0 : GLink) => (bkGLink y0)).sum + 1) + 1 + 1
theorem rb_GConfig {H : Type} {enc : TypeId × Value → H} {w : World} {cs : List Value} {b : Nat} (h : RdB enc Tryd.prog w 27 cs b) : ∃ x : GConfig, RGConfig w cs x ∧ okGConfig x ∧ bkGConfig x ≤ b := by
  obtain ⟨hl, bs, hbl, hbs, hf⟩ := h.struct fl27 sz27
  obtain ⟨c0, hc0, r0⟩ := hf 0 3 0 1 rfl sz3
  have m0 := r0.pos
  obtain ⟨z0, h0, k0⟩ := r0.rd.int Tryd.underlying3
  obtain ⟨c1, hc1, r1⟩ := hf 1 22 1 1 rfl sz22
  obtain ⟨v1, z1, h1, s1, k1, m1⟩ := r1.slice (m := (fun (y0 : GPlan) => (bkGPlan y0))) Tryd.underlying22 sz68 by68 (fun ecs c h _ => rb_GPlan h)
  obtain ⟨c2, hc2, r2⟩ := hf 2 23 2 1 rfl sz23
  obtain ⟨v2, z2, h2, s2, k2, m2⟩ := r2.slice (m := (fun (y0 : Int) => 1)) Tryd.underlying23 sz3 by3 elB_3
  obtain ⟨c3, hc3, r3⟩ := hf 3 24 3 1 rfl sz24
  obtain ⟨v3, z3, h3, s3, k3, m3⟩ := r3.slice (m := (fun (y0 : GWindow) => (bkGWindow y0))) Tryd.underlying24 sz105 by105 (fun ecs c h _ => rb_GWindow h)
  obtain ⟨c4, hc4, r4⟩ := hf 4 25 4 1 rfl sz25
  obtain ⟨v4, z4, h4, s4, k4, m4⟩ := r4.slice (m := (fun (y0 : GLink) => (bkGLink y0))) Tryd.underlying25 sz47 by47 (fun ecs c h _ => rb_GLink h)
  obtain ⟨c5, hc5, r5⟩ := hf 5 3 5 1 rfl sz3
  have m5 := r5.pos
  obtain ⟨z5, h5, k5⟩ := r5.rd.int Tryd.underlying3
  have e : cs = (cs.drop 0).take 1 ++ (cs.drop 1).take 1 ++ (cs.drop 2).take 1 ++ (cs.drop 3).take 1 ++ (cs.drop 4).take 1 ++ (cs.drop 5).take 1 := by
    match cs, hl with
    | [cc0, cc1, cc2, cc3, cc4, cc5], _ => rfl
  rw [h0, h1, h2, h3, h4, h5] at e
  refine ⟨⟨z0, z1, z2, z3, z4, z5⟩, ⟨v1, v2, v3, v4, by rw [e]; rfl, s1.r, s2.r, s3.r, s4.r⟩, ⟨k0, k1, k2, k3, k4, k5, trivial⟩, ?_⟩
  clear hf e
  match bs, hbl with
  | [b0, b1, b2, b3, b4, b5], _ =>
    simp only [List.getElem?_cons_zero, List.getElem?_cons_succ, Option.some.injEq, List.sum_cons, List.sum_nil] at hc0 hc1 hc2 hc3 hc4 hc5 hbs
    have : bkGConfig ⟨z0, z1, z2, z3, z4, z5⟩ = 1 + ((z1.map fun (y0 : GPlan) => (bkGPlan y0)).sum + 1) + ((z2.map fun (y0 : Int) => 1).sum + 1) + ((z3.map fun (y0 : GWindow) => (bkGWindow y0)).sum + 1) + ((z4.map fun (y0 : GLink) => (bkGLink y0)).sum + 1) + 1 + 1 := rfl
    omega
theorem elB_4 {H : Type} {enc : TypeId × Value → H} {w : World} (ecs : List Value) (c : Nat) (h : RdB enc Tryd.prog w 4 ecs c) (_ : ecs.length = 1) : ∃ x : Bool, Flat eF w ecs x ∧ True ∧ 1 ≤ c := by
  have hp := h.pos
  obtain ⟨z, rfl⟩ := h.rd.bool Tryd.underlying4
  exact ⟨z, rfl, trivial, hp⟩
def okGMsg (x : GMsg) : Prop := inK .i64 x.Port ∧ True ∧ True
def bkGMsg (x : GMsg) : Nat := 1 + (x.Data.size + 1) + 1
theorem rb_GMsg {H : Type} {enc : TypeId × Value → H} {w : World} {cs : List Value} {b : Nat} (h : RdB enc Tryd.prog w 50 cs b) : ∃ x : GMsg, Flat eGMsg w cs x ∧ okGMsg x ∧ bkGMsg x ≤ b := by
  obtain ⟨hl, bs, hbl, hbs, hf⟩ := h.struct fl50 sz50
  obtain ⟨c0, hc0, r0⟩ := hf 0 3 0 1 rfl sz3
  have m0 := r0.pos
  obtain ⟨z0, h0, k0⟩ := r0.rd.int Tryd.underlying3
  obtain ⟨c1, hc1, r1⟩ := hf 1 9 1 1 rfl sz9
  obtain ⟨z1, h1, m1⟩ := r1.string Tryd.underlying9
  have e : cs = (cs.drop 0).take 1 ++ (cs.drop 1).take 1 := by
    match cs, hl with
    | [cc0, cc1], _ => rfl
  rw [h0, h1] at e
  refine ⟨⟨z0, z1⟩, by rw [e]; rfl, ⟨k0, trivial, trivial⟩, ?_⟩
  clear hf e
  match bs, hbl with
  | [b0, b1], _ =>
    simp only [List.getElem?_cons_zero, List.getElem?_cons_succ, Option.some.injEq, List.sum_cons, List.sum_nil] at hc0 hc1 hbs
    have : bkGMsg ⟨z0, z1⟩ = 1 + (z1.size + 1) + 1 := rfl
    omega
theorem elB_43 {H : Type} {enc : TypeId × Value → H} {w : World} (ecs : List Value) (c : Nat) (h : RdB enc Tryd.prog w 43 ecs c) (_ : ecs.length = 1) : ∃ x : List GMsg, (RSl 2 eGMsg) w ecs x ∧ (∀ y0 ∈ x, okGMsg y0) ∧ ((x.map fun (y0 : GMsg) => (bkGMsg y0)).sum + 1) ≤ c := by
  obtain ⟨v, xs, hv, hs, hk, hm⟩ := h.slice (m := (fun (y0 : GMsg) => (bkGMsg y0))) Tryd.underlying43 sz50 by50 (fun ecs c h _ => rb_GMsg h)
  exact ⟨xs, ⟨v, hv, hs.r⟩, hk, hm⟩
def okGL14Case (x : GL14Case) : Prop := okGConfig x.C ∧ okGConfig x.D ∧ (∀ y0 ∈ x.Numbers, inK .i64 y0) ∧ (∀ y0 ∈ x.Here, True) ∧ (∀ y0 ∈ x.Emitted, (∀ y1 ∈ y0, okGMsg y1)) ∧ True
def bkGL14Case (x : GL14Case) : Nat := (bkGConfig x.C) + (bkGConfig x.D) + ((x.Numbers.map fun (y0 : Int) => 1).sum + 1) + ((x.Here.map fun (y0 : Bool) => 1).sum + 1) + ((x.Emitted.map fun (y0 : List GMsg) => ((y0.map fun (y1 : GMsg) => (bkGMsg y1)).sum + 1)).sum + 1) + 1
theorem rb_GL14Case {H : Type} {enc : TypeId × Value → H} {w : World} {cs : List Value} {b : Nat} (h : RdB enc Tryd.prog w 31 cs b) : ∃ x : GL14Case, RGL14Case w cs x ∧ okGL14Case x ∧ bkGL14Case x ≤ b := by
  obtain ⟨hl, bs, hbl, hbs, hf⟩ := h.struct fl31 sz31
  obtain ⟨c0, hc0, r0⟩ := hf 0 27 0 6 rfl sz27
  obtain ⟨z0, ⟨v0_0, v0_1, v0_2, v0_3, h0, s0_0, s0_1, s0_2, s0_3⟩, k0, m0⟩ := rb_GConfig r0
  obtain ⟨c1, hc1, r1⟩ := hf 1 27 6 6 rfl sz27
  obtain ⟨z1, ⟨v1_0, v1_1, v1_2, v1_3, h1, s1_0, s1_1, s1_2, s1_3⟩, k1, m1⟩ := rb_GConfig r1
  obtain ⟨c2, hc2, r2⟩ := hf 2 23 12 1 rfl sz23
  obtain ⟨v2, z2, h2, s2, k2, m2⟩ := r2.slice (m := (fun (y0 : Int) => 1)) Tryd.underlying23 sz3 by3 elB_3
  obtain ⟨c3, hc3, r3⟩ := hf 3 28 13 1 rfl sz28
  obtain ⟨v3, z3, h3, s3, k3, m3⟩ := r3.slice (m := (fun (y0 : Bool) => 1)) Tryd.underlying28 sz4 by4 elB_4
  obtain ⟨c4, hc4, r4⟩ := hf 4 29 14 1 rfl sz29
  obtain ⟨v4, z4, h4, s4, k4, m4⟩ := r4.slice (m := (fun (y0 : List GMsg) => ((y0.map fun (y1 : GMsg) => (bkGMsg y1)).sum + 1))) Tryd.underlying29 sz43 by43 elB_43
  have e : cs = (cs.drop 0).take 6 ++ (cs.drop 6).take 6 ++ (cs.drop 12).take 1 ++ (cs.drop 13).take 1 ++ (cs.drop 14).take 1 := by
    match cs, hl with
    | [cc0, cc1, cc2, cc3, cc4, cc5, cc6, cc7, cc8, cc9, cc10, cc11, cc12, cc13, cc14], _ => rfl
  rw [h0, h1, h2, h3, h4] at e
  refine ⟨⟨z0, z1, z2, z3, z4⟩, ⟨v0_0, v0_1, v0_2, v0_3, v1_0, v1_1, v1_2, v1_3, v2, v3, v4, by rw [e]; rfl, s0_0, s0_1, s0_2, s0_3, s1_0, s1_1, s1_2, s1_3, s2.r, s3.r, s4.r⟩, ⟨k0, k1, k2, k3, k4, trivial⟩, ?_⟩
  clear hf e
  match bs, hbl with
  | [b0, b1, b2, b3, b4], _ =>
    simp only [List.getElem?_cons_zero, List.getElem?_cons_succ, Option.some.injEq, List.sum_cons, List.sum_nil] at hc0 hc1 hc2 hc3 hc4 hbs
    have : bkGL14Case ⟨z0, z1, z2, z3, z4⟩ = (bkGConfig z0) + (bkGConfig z1) + ((z2.map fun (y0 : Int) => 1).sum + 1) + ((z3.map fun (y0 : Bool) => 1).sum + 1) + ((z4.map fun (y0 : List GMsg) => ((y0.map fun (y1 : GMsg) => (bkGMsg y1)).sum + 1)).sum + 1) + 1 := rfl
    omega
theorem sum_len {α : Type} {m : α → Nat} (h : ∀ x, 1 ≤ m x) : ∀ l : List α, l.length ≤ (l.map m).sum
  | [] => Nat.zero_le _
  | x :: r => by have := sum_len h r; have := h x; simp only [List.map_cons, List.sum_cons, List.length_cons]; omega
theorem sum_mem' {α : Type} {m : α → Nat} : ∀ {l : List α} {x : α}, x ∈ l → m x ≤ (l.map m).sum
  | [], x, h => by cases h
  | y :: r, x, h => by
    rcases List.mem_cons.1 h with rfl | h
    · simp
    · have := sum_mem' (m := m) h; simp only [List.map_cons, List.sum_cons]; omega
theorem case_bulk {x : GL14Case} (h : bkGL14Case x ≤ 1048576) : okConf x.C ∧ x.Here.length ≤ 1048576 ∧ x.Emitted.length ≤ 1048576 ∧ rowsLe x.Emitted 1048576 := by
  unfold bkGL14Case at h
  have hH := sum_len (m := fun (_ : Bool) => 1) (fun _ => Nat.le_refl _) x.Here
  have hE := sum_len (m := fun (y0 : List GMsg) => ((y0.map fun (y1 : GMsg) => (bkGMsg y1)).sum + 1)) (fun _ => by omega) x.Emitted
  have hM : ∀ m : GMsg, 1 ≤ bkGMsg m := fun m => by unfold bkGMsg; omega
  have hr : rowsLe x.Emitted 1048576 := fun r hr => by
    have h1 := sum_mem' (m := fun (y0 : List GMsg) => ((y0.map fun (y1 : GMsg) => (bkGMsg y1)).sum + 1)) hr
    have h2 := sum_len (m := fun (y1 : GMsg) => (bkGMsg y1)) hM r
    omega
  have hC : bkGConfig x.C ≤ 1048576 := by omega
  unfold bkGConfig at hC
  have hP : ∀ p : GPlan, 1 ≤ bkGPlan p := fun p => by unfold bkGPlan; omega
  have h1 := sum_len (m := fun (y0 : GPlan) => (bkGPlan y0)) hP x.C.Parts
  have h2 := sum_len (m := fun (_ : Int) => 1) (fun _ => Nat.le_refl _) x.C.Homes
  have h3 := sum_len (m := fun (y0 : GWindow) => (bkGWindow y0)) (fun w => by unfold bkGWindow; omega) x.C.Windows
  have h4 := sum_len (m := fun (y0 : GLink) => (bkGLink y0)) (fun w => by unfold bkGLink; omega) x.C.Links
  refine ⟨⟨by unfold maxB; omega, by unfold maxB; omega, by unfold maxB; omega, by unfold maxB; omega, fun p hp => ?_⟩, by omega, by omega, hr⟩
  have h5 := sum_mem' (m := fun (y0 : GPlan) => (bkGPlan y0)) hp
  have h6 : bkGPlan p ≤ 1048576 := by omega
  unfold bkGPlan at h6
  have g1 := sum_len (m := fun (y0 : GPagePlan) => (bkGPagePlan y0)) (fun w => by unfold bkGPagePlan; omega) p.Pages
  have g2 := sum_len (m := fun (y0 : GProcPlan) => (bkGProcPlan y0)) (fun w => by unfold bkGProcPlan; omega) p.Procs
  have g3 := sum_len (m := fun (y0 : GPortPlan) => (bkGPortPlan y0)) (fun w => by unfold bkGPortPlan; omega) p.Ports
  have g4 := sum_len (m := fun (_ : Int) => 1) (fun _ => Nat.le_refl _) p.Sems
  exact ⟨by unfold maxB; omega, by unfold maxB; omega, by unfold maxB; omega, by unfold maxB; omega⟩
theorem Tryd.own : ownKnob Tryd.prog.godebug = none := by kernel_rfl
theorem Tryd.laidOut : laidOutB Tryd.prog = true := by kernel_rfl
theorem Tryd.starE : "*" ++ "errors.errorString" = "*errors.errorString" := by decide
theorem Tryd.rowE (u : TypeId) (h : Tryd.prog.typeName? 3 u = some "*errors.errorString") : u = 329 :=
  typeName_ptr_named (nm := "errors.errorString") (by rw [Tryd.starE]; kernel_rfl) (by kernel_rfl) (by decide) u (by rw [Tryd.starE]; exact h)
theorem Tryd.cE : Tryd.prog.cellsOf 350 = 1 := by kernel_rfl
theorem Tryd.cS : Tryd.prog.cellsOf 9 = 1 := by kernel_rfl
def specs : List (String × Nat × List UInt8) := [("ferry/api.ErrShort", 2, [116, 104, 101, 32, 98, 121, 116, 101, 115, 32, 101, 110, 100, 32, 116, 111, 111, 32, 101, 97, 114, 108, 121]), ("ferry/api.ErrRest", 4, [115, 111, 109, 101, 116, 104, 105, 110, 103, 32, 105, 115, 32, 108, 101, 102, 116, 32, 111, 118, 101, 114]), ("ferry/api.ErrTag", 5, [97, 110, 111, 116, 104, 101, 114, 32, 116, 97, 103, 32, 105, 115, 32, 119, 97, 110, 116, 101, 100]), ("ferry/api.ErrRange", 6, [97, 32, 110, 117, 109, 98, 101, 114, 32, 111, 117, 116, 32, 111, 102, 32, 105, 116, 115, 32, 114, 97, 110, 103, 101]), ("ferry/api.ErrLength", 7, [97, 32, 108, 101, 110, 103, 116, 104, 32, 116, 104, 97, 116, 32, 105, 115, 110, 39, 116, 32, 116, 104, 101, 32, 116, 104, 105, 110, 103, 39, 115]), ("ferry/api.ErrSum", 3, [116, 104, 101, 32, 99, 104, 101, 99, 107, 32, 115, 117, 109, 32, 105, 115, 32, 119, 114, 111, 110, 103]), ("ferry/api.ErrKind", 8, [110, 111, 32, 115, 117, 99, 104, 32, 107, 105, 110, 100]), ("ferry/api.ErrPlan", 0, [110, 111, 116, 32, 111, 102, 32, 116, 104, 105, 115, 32, 112, 108, 97, 110]), ("ferry/api.ErrState", 9, [116, 104, 101, 32, 115, 116, 97, 116, 101, 32, 98, 114, 101, 97, 107, 115, 32, 97, 32, 114, 117, 108, 101]), ("ferry/api.ErrBase", 10, [110, 111, 116, 32, 111, 118, 101, 114, 32, 116, 104, 105, 115, 32, 98, 97, 115, 101]), ("ferry/api.ErrSize", 11, [116, 111, 111, 32, 108, 97, 114, 103, 101]), ("ferry/api.ErrArg", 1, [97, 32, 119, 114, 111, 110, 103, 32, 97, 114, 103, 117, 109, 101, 110, 116]), ("ferry/api.ErrEnd", 14, [97, 32, 99, 111, 117, 110, 116, 101, 114, 32, 105, 115, 32, 97, 116, 32, 105, 116, 115, 32, 101, 110, 100]), ("ferry/api.ErrBusy", 15, [115, 111, 109, 101, 116, 104, 105, 110, 103, 32, 105, 115, 32, 117, 110, 100, 101, 114, 32, 119, 97, 121]), ("ferry/api.ErrDown", 16, [116, 104, 101, 32, 109, 111, 100, 117, 108, 101, 32, 105, 115, 32, 100, 111, 119, 110]), ("ferry/api.ErrLost", 17, [116, 104, 101, 32, 112, 97, 114, 116, 105, 116, 105, 111, 110, 32, 105, 115, 32, 108, 111, 115, 116]), ("ferry/api.ErrNone", 12, [116, 104, 101, 114, 101, 32, 105, 115, 32, 110, 111, 110, 101]), ("ferry/api.ErrText", 18, [97, 32, 116, 101, 120, 116, 32, 116, 104, 97, 116, 32, 105, 115, 110, 39, 116, 32, 111, 102, 32, 116, 104, 101, 32, 108, 97, 110, 103, 117, 97, 103, 101]), ("ferry/api.ErrStop", 19, [99, 97, 110, 99, 101, 108, 108, 101, 100]), ("ferry/api.ErrDivide", 20, [100, 105, 118, 105, 115, 105, 111, 110, 32, 98, 121, 32, 122, 101, 114, 111])]
def setc (v : Value) : Obj → Obj
  | .cells _ t fr => .cells #[v] t fr
  | o => o
noncomputable def lowB : Nat := (World.holding Tryd.prog default ⟨#[], #[], []⟩).heap.size
noncomputable def laidWorld (os : Os) : World :=
  let w0 := World.holding Tryd.prog os ⟨#[.cells #[.string ⟨#[116, 104, 101, 32, 98, 121, 116, 101, 115, 32, 101, 110, 100, 32, 116, 111, 111, 32, 101, 97, 114, 108, 121]⟩] 350, .cells #[.string ⟨#[115, 111, 109, 101, 116, 104, 105, 110, 103, 32, 105, 115, 32, 108, 101, 102, 116, 32, 111, 118, 101, 114]⟩] 350, .cells #[.string ⟨#[97, 110, 111, 116, 104, 101, 114, 32, 116, 97, 103, 32, 105, 115, 32, 119, 97, 110, 116, 101, 100]⟩] 350, .cells #[.string ⟨#[97, 32, 110, 117, 109, 98, 101, 114, 32, 111, 117, 116, 32, 111, 102, 32, 105, 116, 115, 32, 114, 97, 110, 103, 101]⟩] 350, .cells #[.string ⟨#[97, 32, 108, 101, 110, 103, 116, 104, 32, 116, 104, 97, 116, 32, 105, 115, 110, 39, 116, 32, 116, 104, 101, 32, 116, 104, 105, 110, 103, 39, 115]⟩] 350, .cells #[.string ⟨#[116, 104, 101, 32, 99, 104, 101, 99, 107, 32, 115, 117, 109, 32, 105, 115, 32, 119, 114, 111, 110, 103]⟩] 350, .cells #[.string ⟨#[110, 111, 32, 115, 117, 99, 104, 32, 107, 105, 110, 100]⟩] 350, .cells #[.string ⟨#[110, 111, 116, 32, 111, 102, 32, 116, 104, 105, 115, 32, 112, 108, 97, 110]⟩] 350, .cells #[.string ⟨#[116, 104, 101, 32, 115, 116, 97, 116, 101, 32, 98, 114, 101, 97, 107, 115, 32, 97, 32, 114, 117, 108, 101]⟩] 350, .cells #[.string ⟨#[110, 111, 116, 32, 111, 118, 101, 114, 32, 116, 104, 105, 115, 32, 98, 97, 115, 101]⟩] 350, .cells #[.string ⟨#[116, 111, 111, 32, 108, 97, 114, 103, 101]⟩] 350, .cells #[.string ⟨#[97, 32, 119, 114, 111, 110, 103, 32, 97, 114, 103, 117, 109, 101, 110, 116]⟩] 350, .cells #[.string ⟨#[97, 32, 99, 111, 117, 110, 116, 101, 114, 32, 105, 115, 32, 97, 116, 32, 105, 116, 115, 32, 101, 110, 100]⟩] 350, .cells #[.string ⟨#[115, 111, 109, 101, 116, 104, 105, 110, 103, 32, 105, 115, 32, 117, 110, 100, 101, 114, 32, 119, 97, 121]⟩] 350, .cells #[.string ⟨#[116, 104, 101, 32, 109, 111, 100, 117, 108, 101, 32, 105, 115, 32, 100, 111, 119, 110]⟩] 350, .cells #[.string ⟨#[116, 104, 101, 32, 112, 97, 114, 116, 105, 116, 105, 111, 110, 32, 105, 115, 32, 108, 111, 115, 116]⟩] 350, .cells #[.string ⟨#[116, 104, 101, 114, 101, 32, 105, 115, 32, 110, 111, 110, 101]⟩] 350, .cells #[.string ⟨#[97, 32, 116, 101, 120, 116, 32, 116, 104, 97, 116, 32, 105, 115, 110, 39, 116, 32, 111, 102, 32, 116, 104, 101, 32, 108, 97, 110, 103, 117, 97, 103, 101]⟩] 350, .cells #[.string ⟨#[99, 97, 110, 99, 101, 108, 108, 101, 100]⟩] 350, .cells #[.string ⟨#[100, 105, 118, 105, 115, 105, 111, 110, 32, 98, 121, 32, 122, 101, 114, 111]⟩] 350], #[], []⟩
  { w0 with heap := (((((((((((((((((((((w0.heap.modify 2 (setc (.iface 329 (.pointer (some ⟨lowB + 0, 0, none⟩))))).modify 4 (setc (.iface 329 (.pointer (some ⟨lowB + 1, 0, none⟩))))).modify 5 (setc (.iface 329 (.pointer (some ⟨lowB + 2, 0, none⟩))))).modify 6 (setc (.iface 329 (.pointer (some ⟨lowB + 3, 0, none⟩))))).modify 7 (setc (.iface 329 (.pointer (some ⟨lowB + 4, 0, none⟩))))).modify 3 (setc (.iface 329 (.pointer (some ⟨lowB + 5, 0, none⟩))))).modify 8 (setc (.iface 329 (.pointer (some ⟨lowB + 6, 0, none⟩))))).modify 0 (setc (.iface 329 (.pointer (some ⟨lowB + 7, 0, none⟩))))).modify 9 (setc (.iface 329 (.pointer (some ⟨lowB + 8, 0, none⟩))))).modify 10 (setc (.iface 329 (.pointer (some ⟨lowB + 9, 0, none⟩))))).modify 11 (setc (.iface 329 (.pointer (some ⟨lowB + 10, 0, none⟩))))).modify 1 (setc (.iface 329 (.pointer (some ⟨lowB + 11, 0, none⟩))))).modify 14 (setc (.iface 329 (.pointer (some ⟨lowB + 12, 0, none⟩))))).modify 15 (setc (.iface 329 (.pointer (some ⟨lowB + 13, 0, none⟩))))).modify 16 (setc (.iface 329 (.pointer (some ⟨lowB + 14, 0, none⟩))))).modify 17 (setc (.iface 329 (.pointer (some ⟨lowB + 15, 0, none⟩))))).modify 12 (setc (.iface 329 (.pointer (some ⟨lowB + 16, 0, none⟩))))).modify 18 (setc (.iface 329 (.pointer (some ⟨lowB + 17, 0, none⟩))))).modify 19 (setc (.iface 329 (.pointer (some ⟨lowB + 18, 0, none⟩))))).modify 20 (setc (.iface 329 (.pointer (some ⟨lowB + 19, 0, none⟩))))).modify 21 (setc (.iface 229 (.agg #[.pointer (some ⟨25, 36, none⟩)])))) }
set_option maxRecDepth 100000 in
theorem laidWorld_met (os : Os) (args : Array Value) : laidMetH Tryd.prog Rows.frameLinksUptoRow.laid ((laidWorld os).forCall (fun _ _ => 0) ⟨#[], args, []⟩).memory :=
  laidMetH_of_parts (laidMet_of_run (ps := [.cell 2 0, .cell (lowB + 0) 0, .cell 4 0, .cell (lowB + 1) 0, .cell 5 0, .cell (lowB + 2) 0, .cell 6 0, .cell (lowB + 3) 0, .cell 7 0, .cell (lowB + 4) 0, .cell 3 0, .cell (lowB + 5) 0, .cell 8 0, .cell (lowB + 6) 0, .cell 0 0, .cell (lowB + 7) 0, .cell 9 0, .cell (lowB + 8) 0, .cell 10 0, .cell (lowB + 9) 0, .cell 11 0, .cell (lowB + 10) 0, .cell 1 0, .cell (lowB + 11) 0, .cell 14 0, .cell (lowB + 12) 0, .cell 15 0, .cell (lowB + 13) 0, .cell 16 0, .cell (lowB + 14) 0, .cell 17 0, .cell (lowB + 15) 0, .cell 12 0, .cell (lowB + 16) 0, .cell 18 0, .cell (lowB + 17) 0, .cell 19 0, .cell (lowB + 18) 0, .cell 20 0, .cell (lowB + 19) 0]) 8 (by kernel_rfl) (by kernel_rfl) (by kernel_rfl)) (by kernel_rfl)
theorem vars_of {W : World} (h : laidMetH Tryd.prog Rows.frameLinksUptoRow.laid W) : ∃ A, GV 329 (specs.map (·.2.1)) A W := by
  obtain ⟨ps, h1, h2, h3⟩ := (laidMetH_iff.1 h).1
  obtain ⟨ads, hG, _⟩ := gw_laid (nm := "*errors.errorString") Tryd.underlying36 Tryd.rowE Tryd.underlying329 Tryd.underlying350 rfl rfl Tryd.underlying9 Tryd.cE Tryd.cS specs ps h1 h2 h3 (by
    intro x hx
    simp only [specs, List.mem_cons, List.not_mem_nil, or_false] at hx
    rcases hx with rfl | rfl | rfl | rfl | rfl | rfl | rfl | rfl | rfl | rfl | rfl | rfl | rfl | rfl | rfl | rfl | rfl | rfl | rfl | rfl
    all_goals exact ⟨by kernel_rfl, by kernel_rfl⟩)
  exact hG.f (by decide)
theorem Tryd.rt : (Tryd.prog.cutTypes.find? (·.1 == "internal/reflectlite.rtype")).map (·.2) = some 229 := by kernel_rfl
theorem Tryd.oneRow : ((List.range 361).filter fun t => Tryd.prog.rowNamed t [101, 114, 114, 111, 114]) = [36] := by kernel_rfl
theorem Tryd.tsize : Tryd.prog.types.size = 361 := by kernel_rfl
theorem Tryd.etG : Tryd.prog.globalNamed "errors.errorType" = some 21 := by kernel_rfl
theorem handle_of {W : World} (h : laidMetH Tryd.prog Rows.frameLinksUptoRow.laid W) : W.cell? ⟨21, 0, none⟩ = some (.iface 229 (.agg #[.pointer (some ⟨25, 36, none⟩)])) := by
  have hx := (laidMetH_iff.1 h).2 ("errors.errorType", Rows.laid_errors_errorType) (List.mem_filter.2 ⟨by unfold Rows.frameLinksUptoRow; exact List.mem_cons_self, by kernel_rfl⟩)
  have hn : (Rows.laid_errors_errorType (H := Unit)).funcsIn? = none := by kernel_rfl
  simp only [hn] at hx
  obtain ⟨name, u, ty, e1, e2, e3, e4, e5⟩ := hx
  have en : name = [101, 114, 114, 111, 114] := (Option.some.inj ((show (Rows.laid_errors_errorType (H := Unit)).handleName? = some [101, 114, 114, 111, 114] by kernel_rfl).symm.trans e1)).symm
  subst en
  obtain rfl := Option.some.inj (Tryd.rt.symm.trans e2)
  have hm : ty ∈ (List.range 361).filter fun t => Tryd.prog.rowNamed t [101, 114, 114, 111, 114] := List.mem_filter.2 ⟨List.mem_range.2 (by rw [← Tryd.tsize]; exact e3), e4⟩
  rw [Tryd.oneRow] at hm
  obtain rfl := List.mem_singleton.1 hm
  have hh : typeHandle Tryd.prog 36 = .pointer (some ⟨25, 36, none⟩) := by kernel_rfl
  rw [hh] at e5
  simpa using World.var?_cell Tryd.etG e5 0
set_option maxRecDepth 100000 in
theorem frameLinksUpto_reads (os : Os) {H : Type} (enc : TypeId × Value → H) : ∃ places, DataW.whole enc Tryd.prog ((laidWorld os).forCall (fun _ _ => 0) ⟨#[], #[.agg #[.int .i64 0, .slice none 0 0, .slice none 0 0, .slice none 0 0, .slice none 0 0, .int .i64 0, .int .i64 0, .slice none 0 0, .slice none 0 0, .slice none 0 0, .slice none 0 0, .int .i64 0, .slice none 0 0, .slice none 0 0, .slice none 0 0], .int .i64 0], []⟩).memory Tryd.f4.params.toList Rows.frameLinksSpec.vars false (#[.agg #[.int .i64 0, .slice none 0 0, .slice none 0 0, .slice none 0 0, .slice none 0 0, .int .i64 0, .int .i64 0, .slice none 0 0, .slice none 0 0, .slice none 0 0, .slice none 0 0, .int .i64 0, .slice none 0 0, .slice none 0 0, .slice none 0 0], .int .i64 0] : Array Value).toList 8 = some ([.agg [.agg [.lit (.int .i64 0), .nil, .nil, .nil, .nil, .lit (.int .i64 0)], .agg [.lit (.int .i64 0), .nil, .nil, .nil, .nil, .lit (.int .i64 0)], .nil, .nil, .nil], .lit (.int .i64 0)], [], places) :=
  ⟨[], by kernel_rfl⟩
set_option maxRecDepth 100000 in
set_option maxHeartbeats 1000000 in
theorem frameLinksUpto_lifted (os : Os) (started : os.Started) (H : Type) (enc : TypeId × Value → H) (F : Stop.Interp) :
    ReturnsInHanded {} Tryd.checked os 4 .any ((Rows.OpenSpec.upto Rows.frameLinksSpec).preRow enc Tryd.prog Tryd.f4 Rows.frameLinksUptoRow.domain false Rows.frameLinksUptoRow.laid) (((Rows.OpenSpec.upto Rows.frameLinksSpec).at F).post enc Tryd.prog Tryd.f4 false true false false) := by
  obtain ⟨places, hx⟩ := frameLinksUpto_reads os enc
  refine returnsInHanded_of_row (C := Tryd.checked) (s := Rows.OpenSpec.upto Rows.frameLinksSpec) Tryd.own started (by kernel_rfl) Tryd.func4
    (witness_row_at (enc := enc) (C := Tryd.checked) false (laidWorld os) #[.agg #[.int .i64 0, .slice none 0 0, .slice none 0 0, .slice none 0 0, .slice none 0 0, .int .i64 0, .int .i64 0, .slice none 0 0, .slice none 0 0, .slice none 0 0, .slice none 0 0, .int .i64 0, .slice none 0 0, .slice none 0 0, .slice none 0 0], .int .i64 0] rfl (by kernel_rfl) (by kernel_rfl) (by kernel_rfl)
      (OpenSpec.preRow_of_cond 8 hx (by kernel_rfl) (fun k hk => by cases hk; kernel_rfl) (by kernel_rfl) (laidWorld_met os _))) ?_
  intro W base args ds gs before hval0 hW _ hcond hsz0 hL _ _
  have hsz : (DataW.weightsEach Tryd.prog (Tryd.f4.params.toList ++ Rows.frameLinksSpec.plain.varTypes Tryd.prog) (ds ++ gs)).all (· ≤ reachBytes) = true := hsz0
  have hsm := small_of (hcond _ rfl)
  clear hsz0 hcond
  have hval : ∀ (j : Nat) t v, Tryd.f4.params[j]? = some t → args[j]? = some v → Value.okWide Tryd.prog W .any base t v := hval0
  have hW' := hW
  obtain ⟨p, q, hA0, hV, rfl, _, _⟩ := hW
  have hA : DataW.TrodAll enc Tryd.prog W 0 (fun _ => true) true Tryd.f4.params.toList args.toList ds p := hA0
  rw [Tryd.params4] at hA hval hsz
  obtain ⟨v0, v1, d0, d1, p0, p1, rfl, rfl, rfl, h0, h1⟩ := trodAll_two hA
  obtain ⟨rfl, rfl⟩ := trodVars_none hV
  clear hA0 hval0
  simp only [List.append_nil] at hW' hsm
  simp only [List.map_cons, List.map_nil, List.sum_cons, List.sum_nil] at hsm
  have r0 := RdB.of (ts := _) (ds := _) (j := 0) h0 hsz rfl rfl
  obtain ⟨ar0, rfl, _⟩ := okWide_struct Tryd.underlying31 (hval 0 31 v0 rfl rfl)
  obtain ⟨cs0, rfl⟩ : ∃ l : List Value, ar0 = l.toArray := ⟨ar0.toList, by simp⟩
  obtain ⟨x0, hx0, ok0, mz0⟩ := rb_GL14Case (cs := cs0) r0
  have r1 := RdB.of (ts := _) (ds := _) (j := 1) h1 hsz rfl rfl
  obtain ⟨z1, hz1, kz1⟩ := r1.rd.int Tryd.underlying3
  obtain ⟨zz1, rfl⟩ := okWide_int Tryd.underlying3 (hval 1 3 v1 rfl rfl)
  have q1 : [Value.int .i64 zz1] = [.int .i64 z1] := hz1
  obtain rfl : zz1 = z1 := by simpa using q1
  have hlt0 : ∀ x ∈ p0, x.block < W.heap.size := fun x hx => hW'.lt x (by simp [hx])
  have ha0 : ∀ (W' : World), Below W.heap.size W W' → DataW.Trod enc Tryd.prog W' 0 (fun b => decide (b < W.heap.size)) true 31 _ d0 p0 :=
    fun W' hn => Below.trod Tryd.laidOut (by kernel_rfl) (of_decide_eq_true (by kernel_rfl)) h0 hn hlt0
  have hlt1 : ∀ x ∈ p1, x.block < W.heap.size := fun x hx => hW'.lt x (by simp [hx])
  have ha1 : ∀ (W' : World), Below W.heap.size W W' → DataW.Trod enc Tryd.prog W' 0 (fun b => decide (b < W.heap.size)) true 3 _ d1 p1 :=
    fun W' hn => Below.trod Tryd.laidOut (by kernel_rfl) (of_decide_eq_true (by kernel_rfl)) h1 hn hlt1
  obtain ⟨A, hG⟩ := vars_of hL
  have hH := handle_of hL
  have hb : bkGL14Case x0 ≤ 1048576 := by omega
  refine (g_law14_FrameLinks_w (A := A) (hG.sub (by decide)) hH hx0 (law14_FrameLinks x0 zz1 (case_bulk hb).1 (case_bulk hb).2.2.2)).mono fun e W' ⟨v, he, hv, hnx⟩ => ?_
  subst he; subst hv
  refine ⟨_, rfl, _, _, _, [], _, [], hW', ?_, trodAll_mk2 (ha0 _ hnx) (ha1 _ hnx), rfl, hnx.frame _, fun h => by cases h⟩
  exact trodAll_mk1 (shut_bool Tryd.underlying4 true)
theorem frameLinksUpto_holds : Rows.FrameLinksUptoSaid :=
  OpenClaim.holds_of_cond 4 Tryd.f4 rfl rfl rfl rfl rfl rfl rfl ⟨rfl, rfl, rfl, rfl, rfl⟩ rfl rfl rfl rfl rfl frameLinksUpto_fNamed Tryd.func4 frameLinksUpto_fClosed
    frameLinksUpto_fInst frameLinksUpto_fWrap
    (fun os started H enc _ F => by rw [OpenClaim.pre_eq_preRow]; exact frameLinksUpto_lifted os started H enc F)
theorem frameLinksUpto_card_holds : Rows.FrameLinksUptoCardSaid :=
  Claim7.holds_tied_plain_at .later [] [.handle, .sentinel, .sentinel, .sentinel, .sentinel, .sentinel, .sentinel, .sentinel, .sentinel, .sentinel, .sentinel, .sentinel, .sentinel, .sentinel, .sentinel, .sentinel, .sentinel, .sentinel, .sentinel, .sentinel, .sentinel] true (true, "959bcb7dfa65c4dcb3ef39cdd5428f9335251b0be8794d994c4f39a8864efa26") true
    frameLinksUpto_holds (fun _ h => by cases h) (by kernel_rfl) (fun _ h => by cases h) frameLinksUpto_row_tie rfl ⟨rfl, rfl⟩ (by kernel_rfl) rfl
    (fun f fn hf hfn => by
      obtain rfl : f = 4 := Option.some.inj ((show Tryd.prog.funcNamed "ferry/ferrylaw14.FrameLinks" = some 4 by kernel_rfl).symm.trans hf) |>.symm
      obtain rfl : fn = Tryd.f4 := (Option.some.inj (Tryd.func4.symm.trans hfn)).symm
      exact ⟨by kernel_rfl, fun j t ht => by
        rw [Tryd.params4] at ht
        have hm : t ∈ [31, 3] := List.mem_of_getElem? (by simpa using ht)
        simp only [List.mem_cons, List.not_mem_nil, or_false] at hm
        rcases hm with rfl | rfl
        all_goals exact (by kernel_rfl : Tryd.prog.wantsStandIn _ = false)⟩)
    (by kernel_rfl)
end Go.Proofs.YtjoihegnjjjdaaaDoor
