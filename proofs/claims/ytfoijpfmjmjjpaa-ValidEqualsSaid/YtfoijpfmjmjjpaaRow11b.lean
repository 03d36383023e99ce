/- For every input the law ValidEquals returns true, and every argument reads behind the call as it read before it; there are no conditions. (written by wip/tools) -/
import Derived.Test.YtfoijpfmjmjjpaaEq11
import Derived.Test.YtfoijpfmjmjjpaaRead
import Derived.Test.YtfoijpfmjmjjpaaRows
set_option linter.unusedVariables false
set_option linter.unusedSimpArgs false
set_option maxRecDepth 10000
namespace Go.Proofs.Ytfoijpfmjmjjpaa
open Go Go.RowKit
open Go.ChangeShapes Go.WideShapes Go.ChangeAt
theorem by3 : Try.prog.bytesOf 3 = 8 := by kernel_rfl
theorem by4 : Try.prog.bytesOf 4 = 1 := by kernel_rfl
theorem by40 : Try.prog.bytesOf 40 = 80 := by kernel_rfl
theorem by52 : Try.prog.bytesOf 52 = 104 := by kernel_rfl
theorem by55 : Try.prog.bytesOf 55 = 32 := by kernel_rfl
theorem by63 : Try.prog.bytesOf 63 = 16 := by kernel_rfl
theorem by9 : Try.prog.bytesOf 9 = 16 := by kernel_rfl
theorem fl29 : fldsB Try.prog 29 = some [(3, 0), (3, 1), (3, 2), (22, 3), (23, 4), (24, 5), (25, 6), (23, 7), (26, 8), (27, 9)] := by kernel_rfl
theorem fl40 : fldsB Try.prog 40 = some [(3, 0), (4, 1), (38, 2)] := by kernel_rfl
theorem fl52 : fldsB Try.prog 52 = some [(50, 0), (49, 16), (3, 17), (3, 18), (3, 19), (3, 20)] := by kernel_rfl
theorem fl55 : fldsB Try.prog 55 = some [(53, 0), (3, 1)] := by kernel_rfl
theorem fl63 : fldsB Try.prog 63 = some [(3, 0), (3, 1)] := by kernel_rfl

/-- An argument of type State. -/
theorem rd_state {H : Type} {enc : TypeId × Value → H} {w : World} {cs : List Value} (h : Rd enc Try.prog w 29 cs) : ∃ s, IsState w (.agg cs.toArray) s ∧ okState s := by
  obtain ⟨hl, hf⟩ := h.struct fl29 sz29
  obtain ⟨z0, hz0, kz0⟩ := (hf 0 3 0 1 rfl sz3).int Try.underlying3
  obtain ⟨z1, hz1, kz1⟩ := (hf 1 3 1 1 rfl sz3).int Try.underlying3
  obtain ⟨z2, hz2, kz2⟩ := (hf 2 3 2 1 rfl sz3).int Try.underlying3
  obtain ⟨v3, x3, hz3, hs3, kz3⟩ := (hf 3 22 3 1 rfl sz22).slice Try.underlying22 sz52 by52 (el_proc fl52 sz52 Try.underlying3 sz3 Try.underlying50 sz50 Try.underlying49 sz49)
  obtain ⟨v4, x4, hz4, hs4, kz4⟩ := (hf 4 23 4 1 rfl sz23).slice Try.underlying23 sz3 by3 (el_int Try.underlying3)
  obtain ⟨v5, x5, hz5, hs5, kz5⟩ := (hf 5 24 5 1 rfl sz24).slice Try.underlying24 sz63 by63 (el_timer fl63 sz63 Try.underlying3 sz3)
  obtain ⟨v6, x6, hz6, hs6, kz6⟩ := (hf 6 25 6 1 rfl sz25).slice Try.underlying25 sz4 by4 (el_bool Try.underlying4)
  obtain ⟨v7, x7, hz7, hs7, kz7⟩ := (hf 7 23 7 1 rfl sz23).slice Try.underlying23 sz3 by3 (el_int Try.underlying3)
  obtain ⟨v8, x8, hz8, hs8, kz8⟩ := (hf 8 26 8 1 rfl sz26).slice Try.underlying26 sz55 by55 (el_port fl55 sz55 Try.underlying3 sz3 Try.underlying53 sz53 Try.underlying9 sz9 by9)
  obtain ⟨v9, x9, hz9, hs9, kz9⟩ := (hf 9 27 9 1 rfl sz27).slice Try.underlying27 sz40 by40 (el_page fl40 sz40 Try.underlying3 sz3 Try.underlying4 sz4 Try.underlying38 sz38 Try.underlying5 sz5)
  match cs, hl with
  | [c0, c1, c2, c3, c4, c5, c6, c7, c8, c9], _ =>
    have e0 := take_one hz0
    have e1 := take_one hz1
    have e2 := take_one hz2
    have e3 := take_one hz3
    have e4 := take_one hz4
    have e5 := take_one hz5
    have e6 := take_one hz6
    have e7 := take_one hz7
    have e8 := take_one hz8
    have e9 := take_one hz9
    simp at e0 e1 e2 e3 e4 e5 e6 e7 e8 e9
    subst e0 e1 e2 e3 e4 e5 e6 e7 e8 e9
    exact ⟨⟨z0, z1, z2, x3, x4, x5, x6, x7, x8, x9⟩, ⟨_, _, _, _, _, _, _, rfl, hs3, hs4, hs5, hs6, hs7, hs8, hs9⟩, kz0, kz1, kz2, kz3, kz4, kz5, kz7, kz8, kz9⟩
theorem Try.own : ownKnob Try.prog.godebug = none := by kernel_rfl
theorem Try.laidOut : laidOutB Try.prog = true := by kernel_rfl
set_option maxRecDepth 100000 in
theorem validEquals_lifted (os : Os) (started : os.Started) (H : Type) (enc : TypeId × Value → H) :
    ReturnsInHanded {} Try.checked os 4 .any (Rows.validEqualsSpec.pre6 enc Try.prog Try.f4 Rows.validEqualsRow.domain false) (Rows.validEqualsSpec.post enc Try.prog Try.f4 false true false false) := by
  refine returnsInHanded_of_change_sized (C := Try.checked) Try.own started (by kernel_rfl) Try.func4
    (ChangeSpec.witness6 (enc := enc) (C := Try.checked) false ⟨#[], #[.agg #[.int .i64 0, .int .i64 0, .int .i64 0, .slice none 0 0, .slice none 0 0, .slice none 0 0, .slice none 0 0, .slice none 0 0, .slice none 0 0, .slice none 0 0], .agg #[.int .i64 0, .int .i64 0, .int .i64 0, .slice none 0 0, .slice none 0 0, .slice none 0 0, .slice none 0 0, .slice none 0 0, .slice none 0 0, .slice none 0 0], .agg #[.int .i64 0, .int .i64 0, .int .i64 0, .slice none 0 0, .slice none 0 0, .slice none 0 0, .slice none 0 0, .slice none 0 0, .slice none 0 0, .slice none 0 0]], []⟩ 8 (by kernel_rfl) (by kernel_rfl) (by kernel_rfl) (by kernel_rfl)) ?_
  intro W base args ds gs before hval0 hW _ hsz0 _
  have hsz : (DataW.weightsEach Try.prog (Try.f4.params.toList ++ Rows.validEqualsSpec.plain.varTypes Try.prog) (ds ++ gs)).all (· ≤ reachBytes) = true := hsz0
  clear hsz0
  have hval : ∀ (j : Nat) t v, Try.f4.params[j]? = some t → args[j]? = some v → Value.okWide Try.prog W .any base t v := hval0
  have hW' := hW
  obtain ⟨p, q, hA0, hV, rfl, _, _⟩ := hW
  have hA : DataW.TrodAll enc Try.prog W 0 (fun _ => true) true Try.f4.params.toList args.toList ds p := hA0
  rw [Try.params4] at hA hval hsz
  obtain ⟨v0, v1, v2, d0, d1, d2, p0, p1, p2, rfl, rfl, rfl, h0, h1, h2⟩ := trodAll_three hA
  obtain ⟨rfl, rfl⟩ := trodVars_none hV
  clear hA0 hval0
  simp only [List.append_nil] at hW'
  have r0 := Rd.of (ts := _) (ds := _) (j := 0) h0 hsz rfl rfl
  obtain ⟨cs0, rfl, _⟩ := okWide_struct Try.underlying29 (hval 0 29 v0 rfl rfl)
  obtain ⟨s0, is0, ok0⟩ := rd_state r0
  have r1 := Rd.of (ts := _) (ds := _) (j := 1) h1 hsz rfl rfl
  obtain ⟨cs1, rfl, _⟩ := okWide_struct Try.underlying29 (hval 1 29 v1 rfl rfl)
  obtain ⟨s1, is1, ok1⟩ := rd_state r1
  have r2 := Rd.of (ts := _) (ds := _) (j := 2) h2 hsz rfl rfl
  obtain ⟨cs2, rfl, _⟩ := okWide_struct Try.underlying29 (hval 2 29 v2 rfl rfl)
  obtain ⟨s2, is2, ok2⟩ := rd_state r2
  have hlt0 : ∀ x ∈ p0, x.block < W.heap.size := fun x hx => hW'.lt x (by simp [hx])
  have ha0 : ∀ (W' : World), Below W.heap.size W W' → DataW.Trod enc Try.prog W' 0 (fun b => decide (b < W.heap.size)) true 29 _ d0 p0 :=
    fun W' hn => Below.trod Try.laidOut (by kernel_rfl) (of_decide_eq_true (by kernel_rfl)) h0 hn hlt0
  have hlt1 : ∀ x ∈ p1, x.block < W.heap.size := fun x hx => hW'.lt x (by simp [hx])
  have ha1 : ∀ (W' : World), Below W.heap.size W W' → DataW.Trod enc Try.prog W' 0 (fun b => decide (b < W.heap.size)) true 29 _ d1 p1 :=
    fun W' hn => Below.trod Try.laidOut (by kernel_rfl) (of_decide_eq_true (by kernel_rfl)) h1 hn hlt1
  have hlt2 : ∀ x ∈ p2, x.block < W.heap.size := fun x hx => hW'.lt x (by simp [hx])
  have ha2 : ∀ (W' : World), Below W.heap.size W W' → DataW.Trod enc Try.prog W' 0 (fun b => decide (b < W.heap.size)) true 29 _ d2 p2 :=
    fun W' hn => Below.trod Try.laidOut (by kernel_rfl) (of_decide_eq_true (by kernel_rfl)) h2 hn hlt2
  refine (validEquals_w is0 is1 is2).mono fun e W' ⟨v, he, hv, hnx⟩ => ?_
  subst he; subst hv
  refine ⟨_, rfl, _, _, _, [], _, [], hW', ?_, trodAll_mk3 (ha0 _ hnx) (ha1 _ hnx) (ha2 _ hnx), rfl, hnx.frame _, fun h => by cases h⟩
  exact trodAll_mk1 (shut_bool Try.underlying4 true)
theorem validEquals_holds : Rows.ValidEqualsSaid :=
  OpenClaim.holds_of_wide 4 Try.f4 rfl rfl rfl rfl rfl rfl rfl ⟨rfl, rfl, rfl, rfl, rfl⟩ rfl rfl rfl rfl rfl (by kernel_rfl) Try.func4 (by kernel_rfl)
    (of_decide_eq_true (by kernel_rfl)) (by unfold Func.isWrapper; first | (rw [if_pos (by decide +kernel)]; kernel_rfl) | (rw [if_neg (by decide +kernel)]; exact ⟨rfl, rfl⟩))
    (fun os started H enc _ => validEquals_lifted os started H enc)
end Go.Proofs.Ytfoijpfmjmjjpaa
