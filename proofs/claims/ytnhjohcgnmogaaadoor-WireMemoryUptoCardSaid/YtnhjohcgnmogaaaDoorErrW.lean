/- errors.Is, errors.As, api.Code, api.Place (written by wip/tools) -/
import Derived.Test.YtnhjohcgnmogaaaDoorChecked
import Derived.Test.YtnhjohcgnmogaaaDoorErr
set_option linter.unusedVariables false
set_option linter.unusedSimpArgs false
set_option maxRecDepth 10000
namespace Go.Proofs.YtnhjohcgnmogaaaDoor
open Go Go.RowKit
open Go.Extern
theorem ag126 : aggB Tryd.prog 126 = some false := by kernel_rfl
theorem ag155 : aggB Tryd.prog 155 = some false := by kernel_rfl
theorem ag169 : aggB Tryd.prog 169 = some true := by kernel_rfl
theorem ag3 : aggB Tryd.prog 3 = some false := by kernel_rfl
theorem ag33 : aggB Tryd.prog 33 = some false := by kernel_rfl
theorem en151 : entersB Tryd.prog 151 = true := by kernel_rfl
theorem en64 : entersB Tryd.prog 64 = true := by kernel_rfl
theorem en65 : entersB Tryd.prog 65 = true := by kernel_rfl
theorem en76 : entersB Tryd.prog 76 = true := by kernel_rfl
theorem en82 : entersB Tryd.prog 82 = true := by kernel_rfl
theorem en92 : entersB Tryd.prog 92 = true := by kernel_rfl
theorem fo128_0 : fOff Tryd.prog 128 0 = some 0 := by kernel_rfl
theorem fo128_1 : fOff Tryd.prog 128 1 = some 1 := by kernel_rfl
theorem sz126 : sizeB Tryd.prog 126 = some 1 := by kernel_rfl
theorem sz155 : sizeB Tryd.prog 155 = some 1 := by kernel_rfl
theorem sz169 : sizeB Tryd.prog 169 = some 3 := by kernel_rfl
theorem sz33 : sizeB Tryd.prog 33 = some 1 := by kernel_rfl
theorem ze126 : zeroB Tryd.prog 126 = some [.pointer none] := by kernel_rfl
theorem ze169 : zeroB Tryd.prog 169 = some [.pointer none, .pointer none, .int .u64 0] := by kernel_rfl

/-- All error variables, in the order of their codes. -/
abbrev gAll : List Nat := [1, 4, 5, 6, 7, 2, 8, 9, 10, 11, 12, 3, 14, 15, 16, 17, 18, 0, 19, 20]
abbrev EV (A : Nat → Addr) (w : World) : Prop := GV 253 gAll A w
abbrev IsE (A : Nat → Addr) (w : World) (u : Value) (e : ErrM) : Prop := IsErr 253 126 gAll A w u e
/-- The number of an error's variable among them, from 1 on. -/
def codeG (g : Nat) : Int := (gAll.idxOf g : Int) + 1
/-- api.Code. -/
def ErrM.code (e : ErrM) : Int := match e.g? with
  | none => 0
  | some g => codeG g
theorem Tryd.neAE : 126 ≠ 253 := by decide
theorem Tryd.typeOfE (v : Value) (w : World) : (Extern.ReflectliteType.typeOf #[.iface 253 v]).run Tryd.prog w = .ok (.iface 179 (.agg #[.pointer (some ⟨25, 253, none⟩)])) w := by kernel_rfl
theorem Tryd.typeOfA (v : Value) (w : World) : (Extern.ReflectliteType.typeOf #[.iface 126 v]).run Tryd.prog w = .ok (.iface 179 (.agg #[.pointer (some ⟨25, 126, none⟩)])) w := by kernel_rfl
theorem Tryd.compE (w : World) : ((Extern.ReflectliteType.method fun t => do Extern.Rtype.noPackHeld "Comparable" t; pure (.bool (← typeInfo t).comparable)) #[.agg #[.pointer (some ⟨25, 253, none⟩)]]).run Tryd.prog w = .ok (.bool true) w := by kernel_rfl
theorem Tryd.mComparable (v : Value) (w : World) : (Go.method (Tryd.prog.types.size + Made.depth) 179 v "Comparable").run Tryd.prog w = .ok (157, v) w := by kernel_rfl
theorem Tryd.mElem (v : Value) (w : World) : (Go.method (Tryd.prog.types.size + Made.depth) 179 v "Elem").run Tryd.prog w = .ok (158, v) w := by kernel_rfl
theorem Tryd.mImplements (v : Value) (w : World) : (Go.method (Tryd.prog.types.size + Made.depth) 179 v "Implements").run Tryd.prog w = .ok (159, v) w := by kernel_rfl
theorem Tryd.mAssignableTo (v : Value) (w : World) : (Go.method (Tryd.prog.types.size + Made.depth) 179 v "AssignableTo").run Tryd.prog w = .ok (156, v) w := by kernel_rfl
theorem Tryd.compI : (Tryd.prog.info? 253).map (·.comparable) = some true := by kernel_rfl
theorem Tryd.sizeI : (Tryd.prog.info? 275).map (·.size) = some 1 := by kernel_rfl
theorem Tryd.noIs {A : Nat → Addr} {w0 : World} {u : Value} {e : ErrM} (h : IsE A w0 u e) (hn : e ≠ .nil) (w : World) : (Instr.typeAssert u 33 181 true).run Tryd.prog w = .ok (.tuple #[.nilIface, .bool false]) w := by
  obtain ⟨x, rfl⟩ := h.type hn
  cases e.isAt with
  | true => exact run_typeAssert_lacksB Tryd.underlying181 (by kernel_rfl) (by kernel_rfl) _ _ w
  | false => exact run_typeAssert_lacksB Tryd.underlying181 (by kernel_rfl) (by kernel_rfl) _ _ w
theorem Tryd.noUns {A : Nat → Addr} {w0 : World} {u : Value} {e : ErrM} (h : IsE A w0 u e) (hn : e ≠ .nil) (w : World) : (Instr.typeAssert u 33 185 true).run Tryd.prog w = .ok (.tuple #[.nilIface, .bool false]) w := by
  obtain ⟨x, rfl⟩ := h.type hn
  cases e.isAt with
  | true => exact run_typeAssert_lacksB Tryd.underlying185 (by kernel_rfl) (by kernel_rfl) _ _ w
  | false => exact run_typeAssert_lacksB Tryd.underlying185 (by kernel_rfl) (by kernel_rfl) _ _ w
theorem Tryd.noAs {A : Nat → Addr} {w0 : World} {u : Value} {e : ErrM} (h : IsE A w0 u e) (hn : e ≠ .nil) (w : World) : (Instr.typeAssert u 33 202 true).run Tryd.prog w = .ok (.tuple #[.nilIface, .bool false]) w := by
  obtain ⟨x, rfl⟩ := h.type hn
  cases e.isAt with
  | true => exact run_typeAssert_lacksB Tryd.underlying202 (by kernel_rfl) (by kernel_rfl) _ _ w
  | false => exact run_typeAssert_lacksB Tryd.underlying202 (by kernel_rfl) (by kernel_rfl) _ _ w
theorem Tryd.un {A : Nat → Addr} {w0 : World} {u : Value} {e : ErrM} (h : IsE A w0 u e) (hn : e ≠ .nil) (w : World) : (Instr.typeAssert u 33 184 true).run Tryd.prog w = .ok (.tuple #[bif e.isAt then u else .nilIface, .bool e.isAt]) w := by
  obtain ⟨x, rfl⟩ := h.type hn
  cases e.isAt with
  | true => exact run_typeAssert_hasB Tryd.underlying184 (by kernel_rfl) _ _ w
  | false => exact run_typeAssert_lacksB Tryd.underlying184 (by kernel_rfl) (by kernel_rfl) _ _ w
theorem Tryd.callTO (v : Value) (w : World) : (callFunc 81 #[.iface 253 v]).run Tryd.prog w = .ok (.value (.iface 179 (.agg #[.pointer (some ⟨25, 253, none⟩)]))) w := by
  rw [@run_callFunc_extern Tryd.prog 81 _ Extern.ReflectliteType.typeOf Tryd.func81 (by kernel_rfl) (by kernel_rfl) (by kernel_rfl) (by kernel_rfl), Tryd.typeOfE]; rfl
theorem Tryd.callTA (v : Value) (w : World) : (callFunc 81 #[.iface 126 v]).run Tryd.prog w = .ok (.value (.iface 179 (.agg #[.pointer (some ⟨25, 126, none⟩)]))) w := by
  rw [@run_callFunc_extern Tryd.prog 81 _ Extern.ReflectliteType.typeOf Tryd.func81 (by kernel_rfl) (by kernel_rfl) (by kernel_rfl) (by kernel_rfl), Tryd.typeOfA]; rfl
theorem Tryd.callCm (w : World) : (callFunc 157 #[.agg #[.pointer (some ⟨25, 253, none⟩)]]).run Tryd.prog w = .ok (.value (.bool true)) w := by
  have h := @run_callFunc_extern Tryd.prog 157 _ (Extern.ReflectliteType.method fun t => do Extern.Rtype.noPackHeld "Comparable" t; pure (.bool (← typeInfo t).comparable)) Tryd.func157 (by kernel_rfl) (by kernel_rfl) (by kernel_rfl) (by kernel_rfl)
  rw [h]
  exact congrArg (fun r : Result Value => r.andThen fun v w1 => Result.ok (Next.value v) w1) (Tryd.compE w)
theorem unwrap_w {w : World} {b : Nat} {u : Value} (h : w.cell? ⟨b, 1, none⟩ = some u) : Calls Tryd.prog 151 [.pointer (some ⟨b, 0, none⟩)].toArray w (Ret fun r w' => r = u ∧ Ext w w') := by
  refine enter Tryd.func151 rfl rfl rfl ?_
  intro a H
  dsimp only [enumL, Nat.zero_add, Nat.reduceAdd] at H
  refine wp_seq ?_
  refine wp_region_lit ?_
  refine n_q H (q_assign rfl) rfl ?_
  clear H a; intro a H
  refine n_nil ?_
  refine then_normal ?_
  refine wp_seq ?_
  refine wp_region_lit ?_
  refine n_q H (q_move rfl) rfl ?_
  clear H a; intro a H
  refine n_q H (q_nilCheck rfl) rfl ?_
  clear H a; intro a H
  refine n_q H (q_fieldAddr rfl fo128_1) rfl ?_
  clear H a; intro a H
  refine n_q H (q_load rfl (LdX.one ag33 (show w.cell? ((⟨b, 0, none⟩ : Addr).add 1) = some u by rw [plain_add]; exact h))) rfl ?_
  clear H a; intro a H
  refine n_q H (q_assign rfl) rfl ?_
  clear H a; intro a H
  refine n_nil ?_
  refine then_normal ?_
  refine wp_ret ?_
  refine ret1 H (.inr rfl) rfl rfl ?_
  exact ⟨rfl, Ext.rfl'⟩

theorem isV_true {e e0 : ErrM} {g : Nat} (hgg : e.g? = e0.g?) (h : e.isV g = true) : decide (e0.g? = some g) = true := by
  cases e with
  | v g' =>
    have h' : g' = g := by simpa [ErrM.isV] using h
    subst h'
    exact decide_eq_true (hgg.symm : e0.g? = some g')
  | nil => cases h
  | pl p g' => cases h
theorem isV_false {e e0 : ErrM} {g : Nat} (hgg : e.g? = e0.g?) (hn : e ≠ .nil) (ha : e.isAt = false) (h : e.isV g = false) : decide (e0.g? = some g) = false := by
  cases e with
  | v g' =>
    have h' : ¬ g' = g := by simpa [ErrM.isV] using h
    have e1 : e0.g? = some g' := hgg.symm
    exact decide_eq_false (by rw [e1]; simpa using h')
  | nil => exact absurd rfl hn
  | pl p g' => cases ha
theorem is_in {w : World} {A : Nat → Addr} {v0 : Value} {e0 : ErrM} {g : Nat} (hG : EV A w) (h : IsE A w v0 e0) (hg : g ∈ gAll) (hn : e0 ≠ .nil) :
    Calls Tryd.prog 82 [v0, sv 253 A g, .bool true].toArray w (Ret fun r w' => r = .bool (decide (e0.g? = some g)) ∧ Ext w w') := by
  obtain ⟨i, hi, hcmp⟩ := Option.map_eq_some_iff.1 Tryd.compI
  obtain ⟨j, hj, hjs⟩ := Option.map_eq_some_iff.1 Tryd.sizeI
  refine enter Tryd.func82 rfl rfl rfl ?_
  intro a H
  dsimp only [enumL, Nat.zero_add, Nat.reduceAdd] at H
  refine wp_seq ?_
  refine wp_region_lit ?_
  refine n_q H (q_assign rfl) rfl ?_
  clear H a; intro a H
  refine n_nil ?_
  refine then_normal ?_
  refine wp_block ?_
  refine c_loop (σ := ErrM × Value) (fun (e, v) => [(0, v), (1, sv 253 A g), (2, .bool true)]) (fun (e, v) wl => IsE A wl v e ∧ e ≠ .nil ∧ e.g? = e0.g? ∧ Ext w wl) (fun (e, v) => e.depth) (e0, v0) H ⟨rfl, rfl, rfl, trivial⟩ ⟨h, hn, rfl, Ext.rfl'⟩ ?_
  clear H; clear a; intro xx a w1 H hR
  obtain ⟨e, v⟩ := xx
  simp only [ent, List.map_cons, List.map_nil] at H
  try dsimp only at hR
  obtain ⟨hv, hne, hgg, hE2⟩ := hR
  have hX := hE2
  have hY3 := hE2
  have hv' : IsE A _ v e := hv
  refine wp_block ?_
  refine wp_seq ?_
  refine wp_seq ?_
  refine wp_region_lit ?_
  refine n_c H (fun HC => ?_); clear H
  refine nc_q HC (q_move rfl) rfl (by kernel_rfl) ?_
  clear HC a; intro a HC
  refine nc_q HC (q_move rfl) rfl (by kernel_rfl) ?_
  clear HC a; intro a HC
  refine nc_g HC (q_move rfl) (by kernel_rfl) (by kernel_rfl) (by kernel_rfl) ?_
  clear HC a; intro a HC
  refine nc_g HC (q_move rfl) (by kernel_rfl) (by kernel_rfl) (by kernel_rfl) ?_
  clear HC a; intro a HC
  refine nc_g HC (qc_eqErr (hG.ext hX) (hv.ext Ext.rfl') hg Tryd.neAE Tryd.underlying33 Tryd.underlying253 hi hcmp hj (by rw [hjs]; decide) rfl rfl) (by kernel_rfl) (by kernel_rfl) (by kernel_rfl) ?_
  clear HC a; intro a HC
  refine nc_and (j := 1) HC rfl rfl rfl (by kernel_rfl) (by kernel_rfl) ?_
  clear HC a; intro a HC
  have H := HC.has; clear HC
  refine n_nil ?_
  refine then_normal ?_
  refine c_cond H rfl (fun hc19 => ?_) (fun hc19 => ?_)
  · skip
    have q19 : e.isV g = true := by simpa using hc19
    refine wp_seq ?_
    refine wp_region_lit ?_
    refine n_q H (q_assign rfl) rfl ?_
    clear H a; intro a H
    refine n_nil ?_
    refine then_normal ?_
    refine wp_ret ?_
    refine then_ret ?_
    refine block_ret ?_
    refine then_ret ?_
    refine block_ret ?_
    refine ret1 H (.inr rfl) rfl rfl ?_
    exact ⟨congrArg Value.bool (isV_true hgg q19).symm, hX⟩
  · skip
    have q19 : e.isV g = false := by simpa using hc19
    refine wp_skip ?_
    refine then_normal ?_
    refine wp_seq ?_
    refine wp_seq ?_
    refine wp_region_lit ?_
    refine n_q H (q_move rfl) rfl ?_
    clear H a; intro a H
    refine n_q H (q_tassert rfl (Tryd.noIs hv hne)) rfl ?_
    clear H a; intro a H
    refine n_q H (q_move rfl) rfl ?_
    clear H a; intro a H
    refine n_q H (q_extract rfl rfl) rfl ?_
    clear H a; intro a H
    refine n_q H (q_extract rfl rfl) rfl ?_
    clear H a; intro a H
    refine n_q H (q_assign rfl) rfl ?_
    clear H a; intro a H
    refine n_q H (q_assign rfl) rfl ?_
    clear H a; intro a H
    refine n_nil ?_
    refine then_normal ?_
    refine wp_seq ?_
    refine wp_region_lit ?_
    refine n_c H (fun HC => ?_); clear H
    refine nc_q HC (q_move rfl) rfl (by kernel_rfl) ?_
    clear HC a; intro a HC
    refine nc_q HC (q_move rfl) rfl (by kernel_rfl) ?_
    clear HC a; intro a HC
    refine nc_g HC (q_move rfl) (by kernel_rfl) (by kernel_rfl) (by kernel_rfl) ?_
    clear HC a; intro a HC
    refine nc_g HC (q_move rfl) (by kernel_rfl) (by kernel_rfl) (by kernel_rfl) ?_
    clear HC a; intro a HC
    refine nc_no HC rfl rfl (by decide) (by kernel_rfl) (by kernel_rfl) (by kernel_rfl) ?_
    clear HC a; intro a HC
    refine nc_q HC (q_pickF rfl rfl) rfl (by kernel_rfl) ?_
    clear HC a; intro a HC
    have H := HC.has; clear HC
    refine n_nil ?_
    refine then_normal ?_
    refine c_cond H rfl (fun hc30 => ?_) (fun hc30 => ?_)
    · skip
      cases hc30
    · skip
      refine wp_skip ?_
      refine then_normal ?_
      refine wp_seq ?_
      refine wp_region_lit ?_
      refine n_q H (q_move rfl) rfl ?_
      clear H a; intro a H
      refine n_nil ?_
      refine then_normal ?_
      refine wp_block ?_
      refine wp_seq ?_
      refine wp_region_lit ?_
      refine n_q H (q_tassert rfl (Tryd.un hv hne)) rfl ?_
      clear H a; intro a H
      refine n_q H (q_extract rfl rfl) rfl ?_
      clear H a; intro a H
      refine n_q H (q_extract rfl rfl) rfl ?_
      clear H a; intro a H
      refine n_nil ?_
      refine then_normal ?_
      refine c_cond H rfl (fun hc33 => ?_) (fun hc33 => ?_)
      · skip
        obtain ⟨p1, g1, rfl⟩ : ∃ p g, e = .pl p g := by cases e <;> simp [ErrM.isAt] at hc33 ⊢
        have hv1 := hv'
        obtain ⟨hg1, b1, rfl, hc0, hc1⟩ := hv'
        replace hc1 := cell_ext hc1 (Ext.rfl')
        refine wp_seq ?_
        refine wp_region_lit ?_
        refine n_q H (q_assign rfl) rfl ?_
        clear H a; intro a H
        refine n_nil ?_
        refine then_normal ?_
        refine wp_seq ?_
        refine wp_region_lit ?_
        refine n_q H (q_move rfl) rfl ?_
        clear H a; intro a H
        refine n_inv H rfl (fun w => by kernel_rfl) en151 (unwrap_w hc1) rfl ?_
        clear H; intro r w9 hr a H
        obtain ⟨rfl, hE9⟩ := hr
        replace hX := Ext.trans' hX hE9
        replace hY3 := Ext.trans' hY3 hE9
        refine n_q H (q_assign rfl) rfl ?_
        clear H a; intro a H
        refine n_nil ?_
        refine then_normal ?_
        refine wp_seq ?_
        refine wp_region_lit ?_
        refine n_q H (q_move rfl) rfl ?_
        clear H a; intro a H
        refine n_q H (q_nilI Tryd.underlying33 rfl rfl (.inr ⟨_, _, rfl⟩)) rfl ?_
        clear H a; intro a H
        refine n_nil ?_
        refine then_normal ?_
        refine c_cond H rfl (fun hc38 => ?_) (fun hc38 => ?_)
        · skip
          exact absurd hc38 (by simp [sv, isNilI])
        · skip
          refine wp_skip ?_
          refine block_normal ?_
          refine block_normal ?_
          refine then_normal ?_
          exact round (.v g1, sv 253 A g1) H ⟨rfl, rfl, rfl, trivial⟩ ⟨⟨hv1.1, rfl⟩, by simp, hgg, hY3⟩ (by simp [ErrM.depth])
      · skip
        refine wp_seq ?_
        refine wp_region_lit ?_
        refine n_q H (q_tassert rfl (Tryd.noUns hv hne)) rfl ?_
        clear H a; intro a H
        refine n_q H (q_extract rfl rfl) rfl ?_
        clear H a; intro a H
        refine n_q H (q_extract rfl rfl) rfl ?_
        clear H a; intro a H
        refine n_nil ?_
        refine then_normal ?_
        refine c_cond H rfl (fun hc40 => ?_) (fun hc40 => ?_)
        · skip
          cases hc40
        · skip
          refine wp_seq ?_
          refine wp_region_lit ?_
          refine n_q H (q_assign rfl) rfl ?_
          clear H a; intro a H
          refine n_nil ?_
          refine then_normal ?_
          refine wp_seq ?_
          refine wp_region_lit ?_
          refine n_q H (q_assign rfl) rfl ?_
          clear H a; intro a H
          refine n_nil ?_
          refine then_normal ?_
          refine wp_ret ?_
          refine block_ret ?_
          refine block_ret ?_
          refine then_ret ?_
          refine block_ret ?_
          refine ret1 H (.inr rfl) rfl rfl ?_
          exact ⟨congrArg Value.bool (isV_false hgg hne hc33 q19).symm, hX⟩

theorem is_w {w : World} {A : Nat → Addr} {v0 : Value} {e0 : ErrM} {g : Nat} (hG : EV A w) (h : IsE A w v0 e0) (hg : g ∈ gAll) :
    Calls Tryd.prog 64 [v0, sv 253 A g].toArray w (Ret fun r w' => r = .bool (decide (e0.g? = some g)) ∧ Ext w w') := by
  obtain ⟨i, hi, hcmp⟩ := Option.map_eq_some_iff.1 Tryd.compI
  obtain ⟨j, hj, hjs⟩ := Option.map_eq_some_iff.1 Tryd.sizeI
  refine enter Tryd.func64 rfl rfl rfl ?_
  intro a H
  dsimp only [enumL, Nat.zero_add, Nat.reduceAdd] at H
  refine wp_seq ?_
  refine wp_region_lit ?_
  refine n_q H (q_assign rfl) rfl ?_
  clear H a; intro a H
  refine n_nil ?_
  refine then_normal ?_
  refine wp_seq ?_
  refine wp_seq ?_
  refine wp_region_lit ?_
  refine n_c H (fun HC => ?_); clear H
  refine nc_q HC (q_move rfl) rfl (by kernel_rfl) ?_
  clear HC a; intro a HC
  refine nc_q HC (q_nilI Tryd.underlying33 rfl rfl h.form) rfl (by kernel_rfl) ?_
  clear HC a; intro a HC
  refine nc_q HC (q_move rfl) rfl (by kernel_rfl) ?_
  clear HC a; intro a HC
  refine nc_g HC (q_move rfl) (by kernel_rfl) (by kernel_rfl) (by kernel_rfl) ?_
  clear HC a; intro a HC
  refine nc_g HC (q_nilI Tryd.underlying33 rfl rfl (.inr ⟨_, _, rfl⟩)) (by kernel_rfl) (by kernel_rfl) (by kernel_rfl) ?_
  clear HC a; intro a HC
  refine nc_or (j := 2) HC rfl rfl rfl (by kernel_rfl) (by kernel_rfl) ?_
  clear HC a; intro a HC
  have H := HC.has; clear HC
  refine n_nil ?_
  refine then_normal ?_
  refine c_cond H rfl (fun hc11 => ?_) (fun hc11 => ?_)
  · skip
    have q11 : e0 = .nil := by rw [h.isNil] at hc11; simpa [sv, isNilI] using hc11
    subst q11
    refine wp_seq ?_
    refine wp_region_lit ?_
    refine n_q H (q_move rfl) rfl ?_
    clear H a; intro a H
    refine n_q H (q_move rfl) rfl ?_
    clear H a; intro a H
    refine n_q H (qc_eqErr (hG.ext Ext.rfl') (h.ext Ext.rfl') hg Tryd.neAE Tryd.underlying33 Tryd.underlying253 hi hcmp hj (by rw [hjs]; decide) rfl rfl) rfl ?_
    clear H a; intro a H
    refine n_q H (q_assign rfl) rfl ?_
    clear H a; intro a H
    refine n_nil ?_
    refine then_normal ?_
    refine wp_ret ?_
    refine then_ret ?_
    refine ret1 H (.inr rfl) rfl rfl ?_
    exact ⟨by simp [ErrM.isV, ErrM.g?], Ext.rfl'⟩
  · skip
    have q11 : e0 ≠ .nil := by rw [h.isNil] at hc11; simpa [sv, isNilI] using hc11
    refine wp_skip ?_
    refine then_normal ?_
    refine wp_seq ?_
    refine wp_region_lit ?_
    refine n_q H (q_move rfl) rfl ?_
    clear H a; intro a H
    refine n_q H (q_ext1 rfl rfl (fun w _ => Tryd.callTO _ w)) rfl ?_
    clear H a; intro a H
    refine n_q H (q_inv0 rfl (Tryd.mComparable _) (fun w _ => Tryd.callCm w)) rfl ?_
    clear H a; intro a H
    refine n_q H (q_assign rfl) rfl ?_
    clear H a; intro a H
    refine n_nil ?_
    refine then_normal ?_
    refine wp_seq ?_
    refine wp_region_lit ?_
    refine n_q H (q_move rfl) rfl ?_
    clear H a; intro a H
    refine n_q H (q_move rfl) rfl ?_
    clear H a; intro a H
    refine n_q H (q_move rfl) rfl ?_
    clear H a; intro a H
    refine n_call H rfl en82 (is_in (hG.ext Ext.rfl') (h.ext Ext.rfl') hg q11) rfl ?_
    clear H a; intro v3 w1 hv a H
    obtain ⟨rfl, hE2⟩ := hv
    have hX := hE2
    refine n_q H (q_assign rfl) rfl ?_
    clear H a; intro a H
    refine n_nil ?_
    refine then_normal ?_
    refine wp_ret ?_
    refine ret1 H (.inr rfl) rfl rfl ?_
    exact ⟨rfl, hX⟩

theorem code_all {A : Nat → Addr} {w : World} {v : Value} {e : ErrM} (h : IsE A w v e) (hn : e ≠ .nil) (h0 : ¬ e.g? = some 1 ∧ ¬ e.g? = some 4 ∧ ¬ e.g? = some 5 ∧ ¬ e.g? = some 6 ∧ ¬ e.g? = some 7 ∧ ¬ e.g? = some 2 ∧ ¬ e.g? = some 8 ∧ ¬ e.g? = some 9 ∧ ¬ e.g? = some 10 ∧ ¬ e.g? = some 11) (h1 : ¬ e.g? = some 12 ∧ ¬ e.g? = some 3 ∧ ¬ e.g? = some 14 ∧ ¬ e.g? = some 15 ∧ ¬ e.g? = some 16 ∧ ¬ e.g? = some 17 ∧ ¬ e.g? = some 18 ∧ ¬ e.g? = some 0 ∧ ¬ e.g? = some 19 ∧ ¬ e.g? = some 20) : False := by
  obtain ⟨g, hg, hm⟩ : ∃ g, e.g? = some g ∧ g ∈ gAll := by
    cases e with
    | nil => exact absurd rfl hn
    | v g => exact ⟨g, rfl, h.1⟩
    | pl p g => exact ⟨g, rfl, h.1⟩
  simp only [hg, Option.some.injEq] at h0 h1
  simp only [gAll, List.mem_cons, List.not_mem_nil, or_false] at hm
  omega
theorem code_at {e : ErrM} {g : Nat} (h : decide (e.g? = some g) = true) : e.code = codeG g := by
  have : e.g? = some g := of_decide_eq_true h
  simp [ErrM.code, this]
set_option maxHeartbeats 2000000 in
theorem code2_w {w : World} {A : Nat → Addr} {v0 : Value} {e : ErrM} (hG : EV A w) (h : IsE A w v0 e) (hn : e ≠ .nil) (h0 : ¬ e.g? = some 1 ∧ ¬ e.g? = some 4 ∧ ¬ e.g? = some 5 ∧ ¬ e.g? = some 6 ∧ ¬ e.g? = some 7 ∧ ¬ e.g? = some 2 ∧ ¬ e.g? = some 8 ∧ ¬ e.g? = some 9 ∧ ¬ e.g? = some 10 ∧ ¬ e.g? = some 11) :
    Calls Tryd.prog 65 [v0].toArray w (Ret fun r w' => r = .int .i64 e.code ∧ Ext w w') := by
  refine enter Tryd.func65 rfl rfl rfl ?_
  intro a H
  dsimp only [enumL, Nat.zero_add, Nat.reduceAdd] at H
  refine wp_seq ?_
  refine wp_region_lit ?_
  refine n_q H (q_assign rfl) rfl ?_
  clear H a; intro a H
  refine n_nil ?_
  refine then_normal ?_
  refine wp_seq ?_
  refine wp_block ?_
  refine wp_seq ?_
  refine wp_region_lit ?_
  refine n_q H (q_move rfl) rfl ?_
  clear H a; intro a H
  refine n_q H (q_load rfl (hG.ld 12 (by decide) ag33 |>.ext Ext.rfl')) rfl ?_
  clear H a; intro a H
  refine n_call H rfl en64 (is_w (g := 12) (hG.ext Ext.rfl') (h.ext Ext.rfl') (by decide)) rfl ?_
  clear H a; intro v3 w1 hv a H
  obtain ⟨rfl, hE2⟩ := hv
  have hX := hE2
  refine n_q H (q_assign rfl) rfl ?_
  clear H a; intro a H
  refine n_nil ?_
  refine then_normal ?_
  refine c_cond H rfl (fun hc3 => ?_) (fun hc3 => ?_)
  · skip
    refine wp_seq ?_
    refine wp_region_lit ?_
    refine n_q H (q_assign rfl) rfl ?_
    clear H a; intro a H
    refine n_nil ?_
    refine then_normal ?_
    refine wp_ret ?_
    refine block_ret ?_
    refine then_ret ?_
    refine ret1 H (.inr rfl) rfl rfl ?_
    exact ⟨congrArg (Value.int .i64) (code_at hc3).symm, hX⟩
  · skip
    refine wp_seq ?_
    refine wp_region_lit ?_
    refine n_q H (q_move rfl) rfl ?_
    clear H a; intro a H
    refine n_q H (q_load rfl (hG.ld 3 (by decide) ag33 |>.ext hX)) rfl ?_
    clear H a; intro a H
    refine n_call H rfl en64 (is_w (g := 3) (hG.ext hX) (h.ext hX) (by decide)) rfl ?_
    clear H a; intro v6 w4 hv a H
    obtain ⟨rfl, hE5⟩ := hv
    replace hX := Ext.trans' hX hE5
    refine n_q H (q_assign rfl) rfl ?_
    clear H a; intro a H
    refine n_nil ?_
    refine then_normal ?_
    refine c_cond H rfl (fun hc7 => ?_) (fun hc7 => ?_)
    · skip
      refine wp_seq ?_
      refine wp_region_lit ?_
      refine n_q H (q_assign rfl) rfl ?_
      clear H a; intro a H
      refine n_nil ?_
      refine then_normal ?_
      refine wp_ret ?_
      refine block_ret ?_
      refine then_ret ?_
      refine ret1 H (.inr rfl) rfl rfl ?_
      exact ⟨congrArg (Value.int .i64) (code_at hc7).symm, hX⟩
    · skip
      refine wp_seq ?_
      refine wp_region_lit ?_
      refine n_q H (q_move rfl) rfl ?_
      clear H a; intro a H
      refine n_q H (q_load rfl (hG.ld 14 (by decide) ag33 |>.ext hX)) rfl ?_
      clear H a; intro a H
      refine n_call H rfl en64 (is_w (g := 14) (hG.ext hX) (h.ext hX) (by decide)) rfl ?_
      clear H a; intro v9 w7 hv a H
      obtain ⟨rfl, hE8⟩ := hv
      replace hX := Ext.trans' hX hE8
      refine n_q H (q_assign rfl) rfl ?_
      clear H a; intro a H
      refine n_nil ?_
      refine then_normal ?_
      refine c_cond H rfl (fun hc11 => ?_) (fun hc11 => ?_)
      · skip
        refine wp_seq ?_
        refine wp_region_lit ?_
        refine n_q H (q_assign rfl) rfl ?_
        clear H a; intro a H
        refine n_nil ?_
        refine then_normal ?_
        refine wp_ret ?_
        refine block_ret ?_
        refine then_ret ?_
        refine ret1 H (.inr rfl) rfl rfl ?_
        exact ⟨congrArg (Value.int .i64) (code_at hc11).symm, hX⟩
      · skip
        refine wp_seq ?_
        refine wp_region_lit ?_
        refine n_q H (q_move rfl) rfl ?_
        clear H a; intro a H
        refine n_q H (q_load rfl (hG.ld 15 (by decide) ag33 |>.ext hX)) rfl ?_
        clear H a; intro a H
        refine n_call H rfl en64 (is_w (g := 15) (hG.ext hX) (h.ext hX) (by decide)) rfl ?_
        clear H a; intro v12 w10 hv a H
        obtain ⟨rfl, hE11⟩ := hv
        replace hX := Ext.trans' hX hE11
        refine n_q H (q_assign rfl) rfl ?_
        clear H a; intro a H
        refine n_nil ?_
        refine then_normal ?_
        refine c_cond H rfl (fun hc15 => ?_) (fun hc15 => ?_)
        · skip
          refine wp_seq ?_
          refine wp_region_lit ?_
          refine n_q H (q_assign rfl) rfl ?_
          clear H a; intro a H
          refine n_nil ?_
          refine then_normal ?_
          refine wp_ret ?_
          refine block_ret ?_
          refine then_ret ?_
          refine ret1 H (.inr rfl) rfl rfl ?_
          exact ⟨congrArg (Value.int .i64) (code_at hc15).symm, hX⟩
        · skip
          refine wp_seq ?_
          refine wp_region_lit ?_
          refine n_q H (q_move rfl) rfl ?_
          clear H a; intro a H
          refine n_q H (q_load rfl (hG.ld 16 (by decide) ag33 |>.ext hX)) rfl ?_
          clear H a; intro a H
          refine n_call H rfl en64 (is_w (g := 16) (hG.ext hX) (h.ext hX) (by decide)) rfl ?_
          clear H a; intro v15 w13 hv a H
          obtain ⟨rfl, hE14⟩ := hv
          replace hX := Ext.trans' hX hE14
          refine n_q H (q_assign rfl) rfl ?_
          clear H a; intro a H
          refine n_nil ?_
          refine then_normal ?_
          refine c_cond H rfl (fun hc19 => ?_) (fun hc19 => ?_)
          · skip
            refine wp_seq ?_
            refine wp_region_lit ?_
            refine n_q H (q_assign rfl) rfl ?_
            clear H a; intro a H
            refine n_nil ?_
            refine then_normal ?_
            refine wp_ret ?_
            refine block_ret ?_
            refine then_ret ?_
            refine ret1 H (.inr rfl) rfl rfl ?_
            exact ⟨congrArg (Value.int .i64) (code_at hc19).symm, hX⟩
          · skip
            refine wp_seq ?_
            refine wp_region_lit ?_
            refine n_q H (q_move rfl) rfl ?_
            clear H a; intro a H
            refine n_q H (q_load rfl (hG.ld 17 (by decide) ag33 |>.ext hX)) rfl ?_
            clear H a; intro a H
            refine n_call H rfl en64 (is_w (g := 17) (hG.ext hX) (h.ext hX) (by decide)) rfl ?_
            clear H a; intro v18 w16 hv a H
            obtain ⟨rfl, hE17⟩ := hv
            replace hX := Ext.trans' hX hE17
            refine n_q H (q_assign rfl) rfl ?_
            clear H a; intro a H
            refine n_nil ?_
            refine then_normal ?_
            refine c_cond H rfl (fun hc23 => ?_) (fun hc23 => ?_)
            · skip
              refine wp_seq ?_
              refine wp_region_lit ?_
              refine n_q H (q_assign rfl) rfl ?_
              clear H a; intro a H
              refine n_nil ?_
              refine then_normal ?_
              refine wp_ret ?_
              refine block_ret ?_
              refine then_ret ?_
              refine ret1 H (.inr rfl) rfl rfl ?_
              exact ⟨congrArg (Value.int .i64) (code_at hc23).symm, hX⟩
            · skip
              refine wp_seq ?_
              refine wp_region_lit ?_
              refine n_q H (q_move rfl) rfl ?_
              clear H a; intro a H
              refine n_q H (q_load rfl (hG.ld 18 (by decide) ag33 |>.ext hX)) rfl ?_
              clear H a; intro a H
              refine n_call H rfl en64 (is_w (g := 18) (hG.ext hX) (h.ext hX) (by decide)) rfl ?_
              clear H a; intro v21 w19 hv a H
              obtain ⟨rfl, hE20⟩ := hv
              replace hX := Ext.trans' hX hE20
              refine n_q H (q_assign rfl) rfl ?_
              clear H a; intro a H
              refine n_nil ?_
              refine then_normal ?_
              refine c_cond H rfl (fun hc27 => ?_) (fun hc27 => ?_)
              · skip
                refine wp_seq ?_
                refine wp_region_lit ?_
                refine n_q H (q_assign rfl) rfl ?_
                clear H a; intro a H
                refine n_nil ?_
                refine then_normal ?_
                refine wp_ret ?_
                refine block_ret ?_
                refine then_ret ?_
                refine ret1 H (.inr rfl) rfl rfl ?_
                exact ⟨congrArg (Value.int .i64) (code_at hc27).symm, hX⟩
              · skip
                refine wp_seq ?_
                refine wp_region_lit ?_
                refine n_q H (q_move rfl) rfl ?_
                clear H a; intro a H
                refine n_q H (q_load rfl (hG.ld 0 (by decide) ag33 |>.ext hX)) rfl ?_
                clear H a; intro a H
                refine n_call H rfl en64 (is_w (g := 0) (hG.ext hX) (h.ext hX) (by decide)) rfl ?_
                clear H a; intro v24 w22 hv a H
                obtain ⟨rfl, hE23⟩ := hv
                replace hX := Ext.trans' hX hE23
                refine n_q H (q_assign rfl) rfl ?_
                clear H a; intro a H
                refine n_nil ?_
                refine then_normal ?_
                refine c_cond H rfl (fun hc31 => ?_) (fun hc31 => ?_)
                · skip
                  refine wp_seq ?_
                  refine wp_region_lit ?_
                  refine n_q H (q_assign rfl) rfl ?_
                  clear H a; intro a H
                  refine n_nil ?_
                  refine then_normal ?_
                  refine wp_ret ?_
                  refine block_ret ?_
                  refine then_ret ?_
                  refine ret1 H (.inr rfl) rfl rfl ?_
                  exact ⟨congrArg (Value.int .i64) (code_at hc31).symm, hX⟩
                · skip
                  refine wp_seq ?_
                  refine wp_region_lit ?_
                  refine n_q H (q_move rfl) rfl ?_
                  clear H a; intro a H
                  refine n_q H (q_load rfl (hG.ld 19 (by decide) ag33 |>.ext hX)) rfl ?_
                  clear H a; intro a H
                  refine n_call H rfl en64 (is_w (g := 19) (hG.ext hX) (h.ext hX) (by decide)) rfl ?_
                  clear H a; intro v27 w25 hv a H
                  obtain ⟨rfl, hE26⟩ := hv
                  replace hX := Ext.trans' hX hE26
                  refine n_q H (q_assign rfl) rfl ?_
                  clear H a; intro a H
                  refine n_nil ?_
                  refine then_normal ?_
                  refine c_cond H rfl (fun hc35 => ?_) (fun hc35 => ?_)
                  · skip
                    refine wp_seq ?_
                    refine wp_region_lit ?_
                    refine n_q H (q_assign rfl) rfl ?_
                    clear H a; intro a H
                    refine n_nil ?_
                    refine then_normal ?_
                    refine wp_ret ?_
                    refine block_ret ?_
                    refine then_ret ?_
                    refine ret1 H (.inr rfl) rfl rfl ?_
                    exact ⟨congrArg (Value.int .i64) (code_at hc35).symm, hX⟩
                  · skip
                    refine wp_seq ?_
                    refine wp_region_lit ?_
                    refine n_q H (q_move rfl) rfl ?_
                    clear H a; intro a H
                    refine n_q H (q_load rfl (hG.ld 20 (by decide) ag33 |>.ext hX)) rfl ?_
                    clear H a; intro a H
                    refine n_call H rfl en64 (is_w (g := 20) (hG.ext hX) (h.ext hX) (by decide)) rfl ?_
                    clear H a; intro v30 w28 hv a H
                    obtain ⟨rfl, hE29⟩ := hv
                    replace hX := Ext.trans' hX hE29
                    refine n_q H (q_assign rfl) rfl ?_
                    clear H a; intro a H
                    refine n_nil ?_
                    refine then_normal ?_
                    refine c_cond H rfl (fun hc39 => ?_) (fun hc39 => ?_)
                    · skip
                      refine wp_seq ?_
                      refine wp_region_lit ?_
                      refine n_q H (q_assign rfl) rfl ?_
                      clear H a; intro a H
                      refine n_nil ?_
                      refine then_normal ?_
                      refine wp_ret ?_
                      refine block_ret ?_
                      refine then_ret ?_
                      refine ret1 H (.inr rfl) rfl rfl ?_
                      exact ⟨congrArg (Value.int .i64) (code_at hc39).symm, hX⟩
                    · skip
                      refine wp_skip ?_
                      refine block_normal ?_
                      refine then_normal ?_
                      refine wp_seq ?_
                      refine wp_region_lit ?_
                      refine n_q H (q_assign rfl) rfl ?_
                      clear H a; intro a H
                      refine n_nil ?_
                      refine then_normal ?_
                      refine wp_ret ?_
                      refine ret1 H (.inr rfl) rfl rfl ?_
                      exfalso; exact code_all h hn h0 ⟨of_decide_eq_false hc3, of_decide_eq_false hc7, of_decide_eq_false hc11, of_decide_eq_false hc15, of_decide_eq_false hc19, of_decide_eq_false hc23, of_decide_eq_false hc27, of_decide_eq_false hc31, of_decide_eq_false hc35, of_decide_eq_false hc39⟩

set_option maxHeartbeats 2000000 in
/-- api.Code. -/
theorem code_w {w : World} {A : Nat → Addr} {v0 : Value} {e : ErrM} (hG : EV A w) (h : IsE A w v0 e) :
    Calls Tryd.prog 26 [v0].toArray w (Ret fun r w' => r = .int .i64 e.code ∧ Ext w w') := by
  refine enter Tryd.func26 rfl rfl rfl ?_
  intro a H
  dsimp only [enumL, Nat.zero_add, Nat.reduceAdd] at H
  refine wp_seq ?_
  refine wp_region_lit ?_
  refine n_q H (q_assign rfl) rfl ?_
  clear H a; intro a H
  refine n_nil ?_
  refine then_normal ?_
  refine wp_seq ?_
  refine wp_block ?_
  refine wp_seq ?_
  refine wp_region_lit ?_
  refine n_q H (q_move rfl) rfl ?_
  clear H a; intro a H
  refine n_q H (q_nilI Tryd.underlying33 rfl rfl h.form) rfl ?_
  clear H a; intro a H
  refine n_q H (q_assign rfl) rfl ?_
  clear H a; intro a H
  refine n_nil ?_
  refine then_normal ?_
  refine c_cond H rfl (fun hc3 => ?_) (fun hc3 => ?_)
  · skip
    have q0 : e = .nil := by rw [h.isNil] at hc3; exact of_decide_eq_true hc3
    refine wp_seq ?_
    refine wp_region_lit ?_
    refine n_q H (q_assign rfl) rfl ?_
    clear H a; intro a H
    refine n_nil ?_
    refine then_normal ?_
    refine wp_ret ?_
    refine block_ret ?_
    refine then_ret ?_
    refine ret1 H (.inr rfl) rfl rfl ?_
    exact ⟨by rw [q0]; rfl, Ext.rfl'⟩
  · skip
    have q0 : e ≠ .nil := by rw [h.isNil] at hc3; exact of_decide_eq_false hc3
    refine wp_seq ?_
    refine wp_region_lit ?_
    refine n_q H (q_move rfl) rfl ?_
    clear H a; intro a H
    refine n_q H (q_load rfl (hG.ld 1 (by decide) ag33 |>.ext Ext.rfl')) rfl ?_
    clear H a; intro a H
    refine n_call H rfl en64 (is_w (g := 1) (hG.ext Ext.rfl') (h.ext Ext.rfl') (by decide)) rfl ?_
    clear H a; intro v3 w1 hv a H
    obtain ⟨rfl, hE2⟩ := hv
    have hX := hE2
    refine n_q H (q_assign rfl) rfl ?_
    clear H a; intro a H
    refine n_nil ?_
    refine then_normal ?_
    refine c_cond H rfl (fun hc6 => ?_) (fun hc6 => ?_)
    · skip
      refine wp_seq ?_
      refine wp_region_lit ?_
      refine n_q H (q_assign rfl) rfl ?_
      clear H a; intro a H
      refine n_nil ?_
      refine then_normal ?_
      refine wp_ret ?_
      refine block_ret ?_
      refine then_ret ?_
      refine ret1 H (.inr rfl) rfl rfl ?_
      exact ⟨congrArg (Value.int .i64) (code_at hc6).symm, hX⟩
    · skip
      refine wp_seq ?_
      refine wp_region_lit ?_
      refine n_q H (q_move rfl) rfl ?_
      clear H a; intro a H
      refine n_q H (q_load rfl (hG.ld 4 (by decide) ag33 |>.ext hX)) rfl ?_
      clear H a; intro a H
      refine n_call H rfl en64 (is_w (g := 4) (hG.ext hX) (h.ext hX) (by decide)) rfl ?_
      clear H a; intro v6 w4 hv a H
      obtain ⟨rfl, hE5⟩ := hv
      replace hX := Ext.trans' hX hE5
      refine n_q H (q_assign rfl) rfl ?_
      clear H a; intro a H
      refine n_nil ?_
      refine then_normal ?_
      refine c_cond H rfl (fun hc10 => ?_) (fun hc10 => ?_)
      · skip
        refine wp_seq ?_
        refine wp_region_lit ?_
        refine n_q H (q_assign rfl) rfl ?_
        clear H a; intro a H
        refine n_nil ?_
        refine then_normal ?_
        refine wp_ret ?_
        refine block_ret ?_
        refine then_ret ?_
        refine ret1 H (.inr rfl) rfl rfl ?_
        exact ⟨congrArg (Value.int .i64) (code_at hc10).symm, hX⟩
      · skip
        refine wp_seq ?_
        refine wp_region_lit ?_
        refine n_q H (q_move rfl) rfl ?_
        clear H a; intro a H
        refine n_q H (q_load rfl (hG.ld 5 (by decide) ag33 |>.ext hX)) rfl ?_
        clear H a; intro a H
        refine n_call H rfl en64 (is_w (g := 5) (hG.ext hX) (h.ext hX) (by decide)) rfl ?_
        clear H a; intro v9 w7 hv a H
        obtain ⟨rfl, hE8⟩ := hv
        replace hX := Ext.trans' hX hE8
        refine n_q H (q_assign rfl) rfl ?_
        clear H a; intro a H
        refine n_nil ?_
        refine then_normal ?_
        refine c_cond H rfl (fun hc14 => ?_) (fun hc14 => ?_)
        · skip
          refine wp_seq ?_
          refine wp_region_lit ?_
          refine n_q H (q_assign rfl) rfl ?_
          clear H a; intro a H
          refine n_nil ?_
          refine then_normal ?_
          refine wp_ret ?_
          refine block_ret ?_
          refine then_ret ?_
          refine ret1 H (.inr rfl) rfl rfl ?_
          exact ⟨congrArg (Value.int .i64) (code_at hc14).symm, hX⟩
        · skip
          refine wp_seq ?_
          refine wp_region_lit ?_
          refine n_q H (q_move rfl) rfl ?_
          clear H a; intro a H
          refine n_q H (q_load rfl (hG.ld 6 (by decide) ag33 |>.ext hX)) rfl ?_
          clear H a; intro a H
          refine n_call H rfl en64 (is_w (g := 6) (hG.ext hX) (h.ext hX) (by decide)) rfl ?_
          clear H a; intro v12 w10 hv a H
          obtain ⟨rfl, hE11⟩ := hv
          replace hX := Ext.trans' hX hE11
          refine n_q H (q_assign rfl) rfl ?_
          clear H a; intro a H
          refine n_nil ?_
          refine then_normal ?_
          refine c_cond H rfl (fun hc18 => ?_) (fun hc18 => ?_)
          · skip
            refine wp_seq ?_
            refine wp_region_lit ?_
            refine n_q H (q_assign rfl) rfl ?_
            clear H a; intro a H
            refine n_nil ?_
            refine then_normal ?_
            refine wp_ret ?_
            refine block_ret ?_
            refine then_ret ?_
            refine ret1 H (.inr rfl) rfl rfl ?_
            exact ⟨congrArg (Value.int .i64) (code_at hc18).symm, hX⟩
          · skip
            refine wp_seq ?_
            refine wp_region_lit ?_
            refine n_q H (q_move rfl) rfl ?_
            clear H a; intro a H
            refine n_q H (q_load rfl (hG.ld 7 (by decide) ag33 |>.ext hX)) rfl ?_
            clear H a; intro a H
            refine n_call H rfl en64 (is_w (g := 7) (hG.ext hX) (h.ext hX) (by decide)) rfl ?_
            clear H a; intro v15 w13 hv a H
            obtain ⟨rfl, hE14⟩ := hv
            replace hX := Ext.trans' hX hE14
            refine n_q H (q_assign rfl) rfl ?_
            clear H a; intro a H
            refine n_nil ?_
            refine then_normal ?_
            refine c_cond H rfl (fun hc22 => ?_) (fun hc22 => ?_)
            · skip
              refine wp_seq ?_
              refine wp_region_lit ?_
              refine n_q H (q_assign rfl) rfl ?_
              clear H a; intro a H
              refine n_nil ?_
              refine then_normal ?_
              refine wp_ret ?_
              refine block_ret ?_
              refine then_ret ?_
              refine ret1 H (.inr rfl) rfl rfl ?_
              exact ⟨congrArg (Value.int .i64) (code_at hc22).symm, hX⟩
            · skip
              refine wp_seq ?_
              refine wp_region_lit ?_
              refine n_q H (q_move rfl) rfl ?_
              clear H a; intro a H
              refine n_q H (q_load rfl (hG.ld 2 (by decide) ag33 |>.ext hX)) rfl ?_
              clear H a; intro a H
              refine n_call H rfl en64 (is_w (g := 2) (hG.ext hX) (h.ext hX) (by decide)) rfl ?_
              clear H a; intro v18 w16 hv a H
              obtain ⟨rfl, hE17⟩ := hv
              replace hX := Ext.trans' hX hE17
              refine n_q H (q_assign rfl) rfl ?_
              clear H a; intro a H
              refine n_nil ?_
              refine then_normal ?_
              refine c_cond H rfl (fun hc26 => ?_) (fun hc26 => ?_)
              · skip
                refine wp_seq ?_
                refine wp_region_lit ?_
                refine n_q H (q_assign rfl) rfl ?_
                clear H a; intro a H
                refine n_nil ?_
                refine then_normal ?_
                refine wp_ret ?_
                refine block_ret ?_
                refine then_ret ?_
                refine ret1 H (.inr rfl) rfl rfl ?_
                exact ⟨congrArg (Value.int .i64) (code_at hc26).symm, hX⟩
              · skip
                refine wp_seq ?_
                refine wp_region_lit ?_
                refine n_q H (q_move rfl) rfl ?_
                clear H a; intro a H
                refine n_q H (q_load rfl (hG.ld 8 (by decide) ag33 |>.ext hX)) rfl ?_
                clear H a; intro a H
                refine n_call H rfl en64 (is_w (g := 8) (hG.ext hX) (h.ext hX) (by decide)) rfl ?_
                clear H a; intro v21 w19 hv a H
                obtain ⟨rfl, hE20⟩ := hv
                replace hX := Ext.trans' hX hE20
                refine n_q H (q_assign rfl) rfl ?_
                clear H a; intro a H
                refine n_nil ?_
                refine then_normal ?_
                refine c_cond H rfl (fun hc30 => ?_) (fun hc30 => ?_)
                · skip
                  refine wp_seq ?_
                  refine wp_region_lit ?_
                  refine n_q H (q_assign rfl) rfl ?_
                  clear H a; intro a H
                  refine n_nil ?_
                  refine then_normal ?_
                  refine wp_ret ?_
                  refine block_ret ?_
                  refine then_ret ?_
                  refine ret1 H (.inr rfl) rfl rfl ?_
                  exact ⟨congrArg (Value.int .i64) (code_at hc30).symm, hX⟩
                · skip
                  refine wp_seq ?_
                  refine wp_region_lit ?_
                  refine n_q H (q_move rfl) rfl ?_
                  clear H a; intro a H
                  refine n_q H (q_load rfl (hG.ld 9 (by decide) ag33 |>.ext hX)) rfl ?_
                  clear H a; intro a H
                  refine n_call H rfl en64 (is_w (g := 9) (hG.ext hX) (h.ext hX) (by decide)) rfl ?_
                  clear H a; intro v24 w22 hv a H
                  obtain ⟨rfl, hE23⟩ := hv
                  replace hX := Ext.trans' hX hE23
                  refine n_q H (q_assign rfl) rfl ?_
                  clear H a; intro a H
                  refine n_nil ?_
                  refine then_normal ?_
                  refine c_cond H rfl (fun hc34 => ?_) (fun hc34 => ?_)
                  · skip
                    refine wp_seq ?_
                    refine wp_region_lit ?_
                    refine n_q H (q_assign rfl) rfl ?_
                    clear H a; intro a H
                    refine n_nil ?_
                    refine then_normal ?_
                    refine wp_ret ?_
                    refine block_ret ?_
                    refine then_ret ?_
                    refine ret1 H (.inr rfl) rfl rfl ?_
                    exact ⟨congrArg (Value.int .i64) (code_at hc34).symm, hX⟩
                  · skip
                    refine wp_seq ?_
                    refine wp_region_lit ?_
                    refine n_q H (q_move rfl) rfl ?_
                    clear H a; intro a H
                    refine n_q H (q_load rfl (hG.ld 10 (by decide) ag33 |>.ext hX)) rfl ?_
                    clear H a; intro a H
                    refine n_call H rfl en64 (is_w (g := 10) (hG.ext hX) (h.ext hX) (by decide)) rfl ?_
                    clear H a; intro v27 w25 hv a H
                    obtain ⟨rfl, hE26⟩ := hv
                    replace hX := Ext.trans' hX hE26
                    refine n_q H (q_assign rfl) rfl ?_
                    clear H a; intro a H
                    refine n_nil ?_
                    refine then_normal ?_
                    refine c_cond H rfl (fun hc38 => ?_) (fun hc38 => ?_)
                    · skip
                      refine wp_seq ?_
                      refine wp_region_lit ?_
                      refine n_q H (q_assign rfl) rfl ?_
                      clear H a; intro a H
                      refine n_nil ?_
                      refine then_normal ?_
                      refine wp_ret ?_
                      refine block_ret ?_
                      refine then_ret ?_
                      refine ret1 H (.inr rfl) rfl rfl ?_
                      exact ⟨congrArg (Value.int .i64) (code_at hc38).symm, hX⟩
                    · skip
                      refine wp_seq ?_
                      refine wp_region_lit ?_
                      refine n_q H (q_move rfl) rfl ?_
                      clear H a; intro a H
                      refine n_q H (q_load rfl (hG.ld 11 (by decide) ag33 |>.ext hX)) rfl ?_
                      clear H a; intro a H
                      refine n_call H rfl en64 (is_w (g := 11) (hG.ext hX) (h.ext hX) (by decide)) rfl ?_
                      clear H a; intro v30 w28 hv a H
                      obtain ⟨rfl, hE29⟩ := hv
                      replace hX := Ext.trans' hX hE29
                      refine n_q H (q_assign rfl) rfl ?_
                      clear H a; intro a H
                      refine n_nil ?_
                      refine then_normal ?_
                      refine c_cond H rfl (fun hc42 => ?_) (fun hc42 => ?_)
                      · skip
                        refine wp_seq ?_
                        refine wp_region_lit ?_
                        refine n_q H (q_assign rfl) rfl ?_
                        clear H a; intro a H
                        refine n_nil ?_
                        refine then_normal ?_
                        refine wp_ret ?_
                        refine block_ret ?_
                        refine then_ret ?_
                        refine ret1 H (.inr rfl) rfl rfl ?_
                        exact ⟨congrArg (Value.int .i64) (code_at hc42).symm, hX⟩
                      · skip
                        refine wp_skip ?_
                        refine block_normal ?_
                        refine then_normal ?_
                        refine wp_seq ?_
                        refine wp_region_lit ?_
                        refine n_q H (q_move rfl) rfl ?_
                        clear H a; intro a H
                        refine n_call H rfl en65 (code2_w (hG.ext hX) (h.ext hX) q0 ⟨of_decide_eq_false hc6, of_decide_eq_false hc10, of_decide_eq_false hc14, of_decide_eq_false hc18, of_decide_eq_false hc22, of_decide_eq_false hc26, of_decide_eq_false hc30, of_decide_eq_false hc34, of_decide_eq_false hc38, of_decide_eq_false hc42⟩) rfl ?_
                        clear H a; intro v33 w31 hv a H
                        obtain ⟨rfl, hE32⟩ := hv
                        replace hX := Ext.trans' hX hE32
                        refine n_q H (q_assign rfl) rfl ?_
                        clear H a; intro a H
                        refine n_nil ?_
                        refine then_normal ?_
                        refine wp_ret ?_
                        refine ret1 H (.inr rfl) rfl rfl ?_
                        exact ⟨rfl, hX⟩

theorem Tryd.mKind (h : Value) (w : World) : (Go.method (Tryd.prog.types.size + Made.depth) 179 (.agg #[h]) "Kind").run Tryd.prog w = .ok (145, h) w := by kernel_rfl
theorem Tryd.valueOfT (t : Addr) (w : World) : (ReflectliteValue.unpack (.iface 147 (.pointer (some t)))).run Tryd.prog w
    = .ok (.agg #[.pointer (some ⟨25, 147, none⟩), .pointer (some ⟨w.heap.size, 0, none⟩), .int .u64 150]) (w.alloc (.cells #[.pointer (some t)] 147)) := by kernel_rfl
theorem Tryd.valueOfA (t : Addr) (w : World) : (ReflectliteValue.unpack (.iface 126 (.pointer (some t)))).run Tryd.prog w
    = .ok (.agg #[.pointer (some ⟨25, 126, none⟩), .pointer (some ⟨w.heap.size, 0, none⟩), .int .u64 150]) (w.alloc (.cells #[.pointer (some t)] 126)) := by kernel_rfl
theorem Tryd.typeT (a : Addr) (w : World) : (ReflectliteValue.methodAny (ReflectliteValue.valueError "reflectlite.Value.Type" 0) (fun t _ _ _ => ReflectliteType.toType t) #[.agg #[.pointer (some ⟨25, 147, none⟩), .pointer (some a), .int .u64 150]]).run Tryd.prog w
    = .ok (.iface 179 (.agg #[.pointer (some ⟨25, 147, none⟩)])) w := by kernel_rfl
theorem Tryd.kindT (w : World) : ((ReflectliteType.abiMethod fun t => (fun a : Nat => Value.int IntKind.u8 (a : Int)) <$> Rtype.kind t) #[.pointer (some ⟨25, 147, none⟩)]).run Tryd.prog w = .ok (.int .u8 22) w := by kernel_rfl
theorem Tryd.kindA (w : World) : ((ReflectliteType.abiMethod fun t => (fun a : Nat => Value.int IntKind.u8 (a : Int)) <$> Rtype.kind t) #[.pointer (some ⟨25, 126, none⟩)]).run Tryd.prog w = .ok (.int .u8 22) w := by kernel_rfl
theorem rlm (z : Sem Value) (f : TypeId → Addr → Nat → Nat → Sem Value) (v : Value) :
    ReflectliteValue.method z f #[v] = (do match ← ReflectliteValue.parts v with | none => z | some (t, a, fl) => f t a fl (fl % 32)) := rfl
theorem Tryd.partsT (a : Addr) (w : World) : (ReflectliteValue.parts (.agg #[.pointer (some ⟨25, 147, none⟩), .pointer (some a), .int .u64 150])).run Tryd.prog w = .ok (some (147, a, 150)) w := by kernel_rfl
theorem Tryd.isNilT (a p : Addr) (W : World) (ha : W.cell? a = some (.pointer (some p))) :
    (ReflectliteValue.method (ReflectliteValue.valueError "reflectlite.Value.IsNil" 0) ReflectliteValue.isNil #[.agg #[.pointer (some ⟨25, 147, none⟩), .pointer (some a), .int .u64 150]]).run Tryd.prog W = .ok (.bool false) W := by
  rw [rlm]
  simp only [Sem.run_bind, Tryd.partsT, Result.andThen]
  simp [ReflectliteValue.isNil, loadVar, isAgg, underlying, Tryd.underlying147, ha, Result.andThen]
theorem Tryd.elemT (w : World) : (ReflectliteType.method ReflectliteType.elem #[.agg #[.pointer (some ⟨25, 147, none⟩)]]).run Tryd.prog w = .ok (.iface 179 (.agg #[.pointer (some ⟨25, 126, none⟩)])) w := by kernel_rfl
theorem Tryd.assignA (w : World) : (ReflectliteType.relation "AssignableTo" ReflectliteType.assignableTo #[.agg #[.pointer (some ⟨25, 126, none⟩)], .iface 179 (.agg #[.pointer (some ⟨25, 126, none⟩)])]).run Tryd.prog w = .ok (.bool true) w := by kernel_rfl
theorem Tryd.assignE (w : World) : (ReflectliteType.relation "AssignableTo" ReflectliteType.assignableTo #[.agg #[.pointer (some ⟨25, 253, none⟩)], .iface 179 (.agg #[.pointer (some ⟨25, 126, none⟩)])]).run Tryd.prog w = .ok (.bool false) w := by kernel_rfl
theorem Tryd.elemOfT (w : World) : (Rtype.elem? 147).run Tryd.prog w = .ok (some 126) w := by kernel_rfl
theorem Tryd.mkA (p : Addr) (w : World) : (ReflectliteValue.mk 126 p ReflectliteValue.flagAddr).run Tryd.prog w = .ok (.agg #[.pointer (some ⟨25, 126, none⟩), .pointer (some p), .int .u64 406]) w := by kernel_rfl
theorem Tryd.elemVT (a p : Addr) (W : World) (ha : W.cell? a = some (.pointer (some p))) :
    (ReflectliteValue.method (ReflectliteValue.valueError "reflectlite.Value.Elem" 0) ReflectliteValue.elem #[.agg #[.pointer (some ⟨25, 147, none⟩), .pointer (some a), .int .u64 150]]).run Tryd.prog W
      = .ok (.agg #[.pointer (some ⟨25, 126, none⟩), .pointer (some p), .int .u64 406]) W := by
  rw [rlm]
  simp only [Sem.run_bind, Tryd.partsT, Result.andThen]
  simp [ReflectliteValue.elem, loadVar, isAgg, underlying, Tryd.underlying147, ha, Result.andThen, Tryd.elemOfT, Tryd.mkA]
theorem rls (v x : Value) : ReflectliteValue.set #[v, x] = (do
    let (some (dst, a, fl), some (src, b, _)) := (← ReflectliteValue.parts v, ← ReflectliteValue.parts x)
      | unsupported (.noEntry "extern/(internal/reflectlite.Value).Set.zeroValue")
    if fl / ReflectliteValue.flagAddr % 2 == 0 then unsupported (.noEntry "extern/(internal/reflectlite.Value).Set.unaddressable")
    let val ← loadVar src b
    if ← Rtype.directlyAssignable dst src then storeVar dst a val
    else if ← Rtype.implements dst src then
      if (← Rtype.kind src) == 20 then
        match val with
        | .nilIface => unsupported (.noEntry "extern/reflectlite: a nil value of one interface type handed on as a value of another")
        | _ => storeVar dst a val
      else storeVar dst a (.iface src val)
    else panicString ("reflectlite.Set: value of type " ++ (← Rtype.spelt src) ++ " is not assignable to type " ++ (← Rtype.spelt dst))
    pure (.tuple #[])) := rfl
theorem Tryd.partsAa (a : Addr) (w : World) : (ReflectliteValue.parts (.agg #[.pointer (some ⟨25, 126, none⟩), .pointer (some a), .int .u64 406])).run Tryd.prog w = .ok (some (126, a, 406)) w := by kernel_rfl
theorem Tryd.partsA (a : Addr) (w : World) : (ReflectliteValue.parts (.agg #[.pointer (some ⟨25, 126, none⟩), .pointer (some a), .int .u64 150])).run Tryd.prog w = .ok (some (126, a, 150)) w := by kernel_rfl
theorem Tryd.directA (w : World) : (Rtype.directlyAssignable 126 126).run Tryd.prog w = .ok true w := by kernel_rfl
theorem Tryd.sizeA (w : World) : (sizeOf 126).run Tryd.prog w = .ok 1 w := by kernel_rfl
theorem Tryd.setA (ta b e : Addr) (old : Value) (W : World) (hb : W.cell? b = some (.pointer (some e))) (ht : W.cell? ta = some old) (hf : W.frozen? ta = false) :
    (ReflectliteValue.set #[.agg #[.pointer (some ⟨25, 126, none⟩), .pointer (some ta), .int .u64 406], .agg #[.pointer (some ⟨25, 126, none⟩), .pointer (some b), .int .u64 150]]).run Tryd.prog W
      = .ok (.tuple #[]) (W.setCell ta (.pointer (some e))) := by
  rw [rls]
  simp only [Sem.run_bind, Tryd.partsAa, Tryd.partsA, Result.andThen]
  simp [ReflectliteValue.flagAddr, loadVar, isAgg, underlying, Tryd.underlying126, hb, Result.andThen, Tryd.directA, storeVar, Value.cells, storeCells, Addr.add]
  rw [run_store Tryd.prog W ta _ _ (by rfl)]
  simp [ht, hf]
theorem Tryd.cVO (t : Addr) (w : World) : (callFunc 89 #[.iface 147 (.pointer (some t))]).run Tryd.prog w = .ok (.value (.agg #[.pointer (some ⟨25, 147, none⟩), .pointer (some ⟨w.heap.size, 0, none⟩), .int .u64 150])) (w.alloc (.cells #[.pointer (some t)] 147)) := by
  rw [@run_callFunc_extern Tryd.prog 89 _ (fun args => ReflectliteValue.unpack (args.getD 0 (.tuple #[]))) Tryd.func89 (by kernel_rfl) (by kernel_rfl) (by kernel_rfl) (by kernel_rfl)]
  have hh := Tryd.valueOfT t w
  exact congrArg (fun r : Result Value => r.andThen fun v w1 => Result.ok (Next.value v) w1) hh
theorem Tryd.cVA (t : Addr) (w : World) : (callFunc 89 #[.iface 126 (.pointer (some t))]).run Tryd.prog w = .ok (.value (.agg #[.pointer (some ⟨25, 126, none⟩), .pointer (some ⟨w.heap.size, 0, none⟩), .int .u64 150])) (w.alloc (.cells #[.pointer (some t)] 126)) := by
  rw [@run_callFunc_extern Tryd.prog 89 _ (fun args => ReflectliteValue.unpack (args.getD 0 (.tuple #[]))) Tryd.func89 (by kernel_rfl) (by kernel_rfl) (by kernel_rfl) (by kernel_rfl)]
  have hh := Tryd.valueOfA t w
  exact congrArg (fun r : Result Value => r.andThen fun v w1 => Result.ok (Next.value v) w1) hh
theorem Tryd.cTy (a : Addr) (w : World) : (callFunc 90 #[.agg #[.pointer (some ⟨25, 147, none⟩), .pointer (some a), .int .u64 150]]).run Tryd.prog w = .ok (.value (.iface 179 (.agg #[.pointer (some ⟨25, 147, none⟩)]))) w := by
  rw [@run_callFunc_extern Tryd.prog 90 _ (ReflectliteValue.methodAny (ReflectliteValue.valueError "reflectlite.Value.Type" 0) (fun t _ _ _ => ReflectliteType.toType t)) Tryd.func90 (by kernel_rfl) (by kernel_rfl) (by kernel_rfl) (by kernel_rfl)]
  have hh := Tryd.typeT a w
  exact congrArg (fun r : Result Value => r.andThen fun v w1 => Result.ok (Next.value v) w1) hh
theorem Tryd.cNil (a p : Addr) (w : World) (ha : w.cell? a = some (.pointer (some p))) : (callFunc 91 #[.agg #[.pointer (some ⟨25, 147, none⟩), .pointer (some a), .int .u64 150]]).run Tryd.prog w = .ok (.value (.bool false)) w := by
  rw [@run_callFunc_extern Tryd.prog 91 _ (ReflectliteValue.method (ReflectliteValue.valueError "reflectlite.Value.IsNil" 0) ReflectliteValue.isNil) Tryd.func91 (by kernel_rfl) (by kernel_rfl) (by kernel_rfl) (by kernel_rfl)]
  have hh := Tryd.isNilT a p w ha
  exact congrArg (fun r : Result Value => r.andThen fun v w1 => Result.ok (Next.value v) w1) hh
theorem Tryd.cKT (w : World) : (callFunc 145 #[.pointer (some ⟨25, 147, none⟩)]).run Tryd.prog w = .ok (.value (.int .u8 22)) w := by
  rw [@run_callFunc_extern Tryd.prog 145 _ (ReflectliteType.abiMethod fun t => do pure (.int .u8 (← Rtype.kind t))) Tryd.func145 (by kernel_rfl) (by kernel_rfl) (by kernel_rfl) (by kernel_rfl)]
  have hh := Tryd.kindT w
  exact congrArg (fun r : Result Value => r.andThen fun v w1 => Result.ok (Next.value v) w1) hh
theorem Tryd.cKA (w : World) : (callFunc 145 #[.pointer (some ⟨25, 126, none⟩)]).run Tryd.prog w = .ok (.value (.int .u8 22)) w := by
  rw [@run_callFunc_extern Tryd.prog 145 _ (ReflectliteType.abiMethod fun t => do pure (.int .u8 (← Rtype.kind t))) Tryd.func145 (by kernel_rfl) (by kernel_rfl) (by kernel_rfl) (by kernel_rfl)]
  have hh := Tryd.kindA w
  exact congrArg (fun r : Result Value => r.andThen fun v w1 => Result.ok (Next.value v) w1) hh
theorem Tryd.cRE (w : World) : (callFunc 158 #[.agg #[.pointer (some ⟨25, 147, none⟩)]]).run Tryd.prog w = .ok (.value (.iface 179 (.agg #[.pointer (some ⟨25, 126, none⟩)]))) w := by
  rw [@run_callFunc_extern Tryd.prog 158 _ (ReflectliteType.method ReflectliteType.elem) Tryd.func158 (by kernel_rfl) (by kernel_rfl) (by kernel_rfl) (by kernel_rfl)]
  have hh := Tryd.elemT w
  exact congrArg (fun r : Result Value => r.andThen fun v w1 => Result.ok (Next.value v) w1) hh
theorem Tryd.cAA (w : World) : (callFunc 156 #[.agg #[.pointer (some ⟨25, 126, none⟩)], .iface 179 (.agg #[.pointer (some ⟨25, 126, none⟩)])]).run Tryd.prog w = .ok (.value (.bool true)) w := by
  rw [@run_callFunc_extern Tryd.prog 156 _ (ReflectliteType.relation "AssignableTo" ReflectliteType.assignableTo) Tryd.func156 (by kernel_rfl) (by kernel_rfl) (by kernel_rfl) (by kernel_rfl)]
  have hh := Tryd.assignA w
  exact congrArg (fun r : Result Value => r.andThen fun v w1 => Result.ok (Next.value v) w1) hh
theorem Tryd.cAE (w : World) : (callFunc 156 #[.agg #[.pointer (some ⟨25, 253, none⟩)], .iface 179 (.agg #[.pointer (some ⟨25, 126, none⟩)])]).run Tryd.prog w = .ok (.value (.bool false)) w := by
  rw [@run_callFunc_extern Tryd.prog 156 _ (ReflectliteType.relation "AssignableTo" ReflectliteType.assignableTo) Tryd.func156 (by kernel_rfl) (by kernel_rfl) (by kernel_rfl) (by kernel_rfl)]
  have hh := Tryd.assignE w
  exact congrArg (fun r : Result Value => r.andThen fun v w1 => Result.ok (Next.value v) w1) hh
theorem Tryd.cEl (a p : Addr) (w : World) (ha : w.cell? a = some (.pointer (some p))) : (callFunc 104 #[.agg #[.pointer (some ⟨25, 147, none⟩), .pointer (some a), .int .u64 150]]).run Tryd.prog w = .ok (.value (.agg #[.pointer (some ⟨25, 126, none⟩), .pointer (some p), .int .u64 406])) w := by
  rw [@run_callFunc_extern Tryd.prog 104 _ (ReflectliteValue.method (ReflectliteValue.valueError "reflectlite.Value.Elem" 0) ReflectliteValue.elem) Tryd.func104 (by kernel_rfl) (by kernel_rfl) (by kernel_rfl) (by kernel_rfl)]
  have hh := Tryd.elemVT a p w ha
  exact congrArg (fun r : Result Value => r.andThen fun v w1 => Result.ok (Next.value v) w1) hh
theorem Tryd.cSet (ta b e : Addr) (old : Value) (w : World) (hb : w.cell? b = some (.pointer (some e))) (ht : w.cell? ta = some old) (hf : w.frozen? ta = false) : (callFunc 105 #[.agg #[.pointer (some ⟨25, 126, none⟩), .pointer (some ta), .int .u64 406], .agg #[.pointer (some ⟨25, 126, none⟩), .pointer (some b), .int .u64 150]]).run Tryd.prog w = .ok (.value (.tuple #[])) (w.setCell ta (.pointer (some e))) := by
  rw [@run_callFunc_extern Tryd.prog 105 _ (ReflectliteValue.set) Tryd.func105 (by kernel_rfl) (by kernel_rfl) (by kernel_rfl) (by kernel_rfl)]
  have hh := Tryd.setA ta b e old w hb ht hf
  exact congrArg (fun r : Result Value => r.andThen fun v w1 => Result.ok (Next.value v) w1) hh
theorem setCell_blk {w : World} {b T : Nat} {x v : Value} (hB : Blk w b [x] T) : Blk (w.setCell ⟨b, 0, none⟩ v) b [v] T ∧ Chg [b] w (w.setCell ⟨b, 0, none⟩ v) :=
  ⟨by simpa using hB.set 0 v, ⟨rfl, rfl, rfl, by simp, fun k hk hn => heap_setCell_other w _ k v (fun e => hn (by rw [e]; exact List.mem_singleton.2 rfl))⟩⟩
theorem callTOu {A : Nat → Addr} {w0 : World} {u : Value} {e : ErrM} (h : IsE A w0 u e) (hn : e ≠ .nil) (w : World) : (callFunc 81 #[u]).run Tryd.prog w = .ok (.value (.iface 179 (.agg #[.pointer (some ⟨25, if e.isAt = true then 126 else 253, none⟩)]))) w := by
  obtain ⟨x, rfl⟩ := h.type hn
  cases e.isAt with
  | true => exact Tryd.callTA _ w
  | false => exact Tryd.callTO _ w
theorem callAsu (e : ErrM) (w : World) : (callFunc 156 #[.agg #[.pointer (some ⟨25, if e.isAt = true then 126 else 253, none⟩)], .iface 179 (.agg #[.pointer (some ⟨25, 126, none⟩)])]).run Tryd.prog w = .ok (.value (.bool e.isAt)) w := by
  cases e.isAt with
  | true => exact Tryd.cAA w
  | false => exact Tryd.cAE w
theorem asA {A : Nat → Addr} {w : World} {u : Value} {e : ErrM} (h : IsE A w u e) (q : e.isAt = true) : ∃ ap, u = .iface 126 (.pointer (some ap)) := by
  cases e with
  | pl p g => obtain ⟨_, b, h, _⟩ := h; exact ⟨_, h⟩
  | v g => cases q
  | nil => cases q
/-- The pointer that an error with a place holds. -/
def ptrOf (e : ErrM) (u x : Value) : Prop := e.isAt = true → ∃ ap, u = .iface 126 (.pointer (some ap)) ∧ x = .pointer (some ap)
theorem as_in {w : World} {fp : Nat → Prop} {A : Nat → Addr} {u0 : Value} {e : ErrM} {bt vb : Nat} (hP0 : Sep w fp [blkR bt [.pointer none] 126, blkR vb [.pointer (some ⟨bt, 0, none⟩)] 147]) (hv0 : ∀ w', ChgP fp w w' → IsE A w' u0 e) (hne : e ≠ .nil) :
    Calls Tryd.prog 92 [u0, .iface 147 (.pointer (some ⟨bt, 0, none⟩)), .agg #[.pointer (some ⟨25, 147, none⟩), .pointer (some ⟨vb, 0, none⟩), .int .u64 150], .iface 179 (.agg #[.pointer (some ⟨25, 126, none⟩)])].toArray w (Ret fun r w' => ∃ x, r = .bool e.isAt ∧ ptrOf e u0 x ∧ St fp w w' [blkR bt [x] 126]) := by
  have hS := St.init hP0
  refine enter Tryd.func92 rfl rfl rfl ?_
  intro a H
  dsimp only [enumL, Nat.zero_add, Nat.reduceAdd] at H
  refine wp_seq ?_
  refine wp_region_lit ?_
  refine n_box H rfl (cs := [.pointer (some ⟨25, 147, none⟩), .pointer (some ⟨vb, 0, none⟩), .int .u64 150]) rfl rfl ?_
  clear H; intro b6 w1 hN hE2 hs_b6; clear a; intro a H
  replace hS := hS.newBlk hN hE2 hs_b6; clear hN hE2
  refine n_q H (q_assign rfl) rfl ?_
  clear H a; intro a H
  refine n_nil ?_
  refine then_normal ?_
  refine wp_block ?_
  replace hS := hS.pick 2 rfl
  dsimp only [List.eraseIdx] at hS
  replace hS := hS.pick 2 rfl
  dsimp only [List.eraseIdx] at hS
  replace hS := hS.pick 2 rfl
  dsimp only [List.eraseIdx] at hS
  refine c_loop (σ := Unit) (fun x => [(0, u0), (1, .iface 147 (.pointer (some ⟨bt, 0, none⟩))), (2, .agg #[.pointer (some ⟨25, 147, none⟩), .pointer (some ⟨vb, 0, none⟩), .int .u64 150]), (3, .iface 179 (.agg #[.pointer (some ⟨25, 126, none⟩)])), (6, .pointer (some ⟨b6, 0, none⟩))]) (fun x wl => St fp w wl [blkR b6 [.pointer (some ⟨25, 147, none⟩), .pointer (some ⟨vb, 0, none⟩), .int .u64 150] 169, blkR bt [.pointer none] 126, blkR vb [.pointer (some ⟨bt, 0, none⟩)] 147]) (fun x => 0) () H ⟨rfl, rfl, rfl, rfl, rfl, trivial⟩ hS ?_
  clear H hS; clear a; intro x a w3 H hR
  simp only [ent, List.map_cons, List.map_nil] at H
  try dsimp only at hR
  have hS := hR; try clear hR
  have hv := hv0 _ hS.chg
  refine wp_block ?_
  refine wp_seq ?_
  refine wp_seq ?_
  refine wp_region_lit ?_
  refine n_q H (q_move rfl) rfl ?_
  clear H a; intro a H
  refine n_q H (q_ext1 rfl rfl (fun w _ => callTOu hv hne w)) rfl ?_
  clear H a; intro a H
  refine n_q H (q_move rfl) rfl ?_
  clear H a; intro a H
  refine n_q H (q_inv1 rfl rfl (Tryd.mAssignableTo _) (fun w _ => callAsu e w)) rfl ?_
  clear H a; intro a H
  refine n_nil ?_
  refine then_normal ?_
  refine c_cond H rfl (fun hc19 => ?_) (fun hc19 => ?_)
  · skip
    have q19 : e.isAt = true := hc19
    refine wp_seq ?_
    refine wp_region_lit ?_
    refine n_q H (q_load rfl ((hS.blk 0 rfl).ldAll ag169 sz169)) rfl ?_
    clear H a; intro a H
    refine n_q H (q_ext1 rfl rfl (fun w1 hw1 => Tryd.cEl _ _ _ (((hS.blk 2 rfl).ext hw1).cell 0))) rfl ?_
    clear H a; intro a H
    refine n_q H (q_move rfl) rfl ?_
    clear H a; intro a H
    obtain ⟨ap, hap⟩ : ∃ ap, u0 = .iface 126 (.pointer (some ap)) := asA hv q19
    subst hap
    refine n_ext1 H rfl (Tryd.cVA ap _) rfl ?_
    clear H; clear a; intro a H
    obtain ⟨w20, hw20⟩ : ∃ x, x = World.alloc w3 (.cells #[.pointer (some ap)] 126) := ⟨_, rfl⟩
    obtain ⟨b20, hb20⟩ : ∃ x, x = (World.heap w3).size := ⟨_, rfl⟩
    rw [← hb20] at H
    have hN20 : Blk w20 b20 [.pointer (some ap)] 126 := by rw [hw20, hb20]; exact Blk.new _ [.pointer (some ap)] 126
    rw [← hw20]
    replace hS := hS.newBlk hN20 (by rw [hw20]; exact Ext.alloc' _ _) hb20.symm
    replace hS := hS.pick 2 rfl
    dsimp only [List.eraseIdx] at hS
    refine n_ext2 H rfl rfl (Tryd.cSet ⟨bt, 0, none⟩ ⟨b20, 0, none⟩ ap (.pointer none) _ ((hS.blk 1 rfl).cell 0) ((hS.blk 0 rfl).cell 0) ((hS.blk 0 rfl).frozen (by simp))) rfl ?_
    clear H; clear a; intro a H
    have hsc := setCell_blk (v := .pointer (some ap)) (hS.blk 0 rfl)
    obtain ⟨w21, hw21⟩ : ∃ x, x = World.setCell w20 ⟨bt, 0, none⟩ (.pointer (some ap)) := ⟨_, rfl⟩
    rw [← hw21] at hsc ⊢
    replace hS := hS.setBlk hsc.1 hsc.2
    refine n_nil ?_
    refine then_normal ?_
    refine wp_seq ?_
    refine wp_region_lit ?_
    refine n_q H (q_assign rfl) rfl ?_
    clear H a; intro a H
    refine n_nil ?_
    refine then_normal ?_
    refine wp_ret ?_
    refine then_ret ?_
    refine block_ret ?_
    refine then_ret ?_
    refine block_ret ?_
    replace hS := hS.take 1
    simp only [List.take_succ_cons, List.take_zero] at hS
    refine ret1 H (.inr rfl) rfl rfl ?_
    exact ⟨.pointer (some ap), by rw [q19], fun _ => ⟨_, rfl, rfl⟩, hS⟩
  · skip
    have q19 : e.isAt = false := hc19
    refine wp_skip ?_
    refine then_normal ?_
    refine wp_seq ?_
    refine wp_seq ?_
    refine wp_region_lit ?_
    refine n_q H (q_move rfl) rfl ?_
    clear H a; intro a H
    refine n_q H (q_tassert rfl (Tryd.noAs hv hne)) rfl ?_
    clear H a; intro a H
    refine n_q H (q_move rfl) rfl ?_
    clear H a; intro a H
    refine n_q H (q_extract rfl rfl) rfl ?_
    clear H a; intro a H
    refine n_q H (q_extract rfl rfl) rfl ?_
    clear H a; intro a H
    refine n_q H (q_assign rfl) rfl ?_
    clear H a; intro a H
    refine n_q H (q_assign rfl) rfl ?_
    clear H a; intro a H
    refine n_nil ?_
    refine then_normal ?_
    refine wp_seq ?_
    refine wp_region_lit ?_
    refine n_c H (fun HC => ?_); clear H
    refine nc_q HC (q_move rfl) rfl (by kernel_rfl) ?_
    clear HC a; intro a HC
    refine nc_q HC (q_move rfl) rfl (by kernel_rfl) ?_
    clear HC a; intro a HC
    refine nc_g HC (q_move rfl) (by kernel_rfl) (by kernel_rfl) (by kernel_rfl) ?_
    clear HC a; intro a HC
    refine nc_g HC (q_move rfl) (by kernel_rfl) (by kernel_rfl) (by kernel_rfl) ?_
    clear HC a; intro a HC
    refine nc_no HC rfl rfl (by decide) (by kernel_rfl) (by kernel_rfl) (by kernel_rfl) ?_
    clear HC a; intro a HC
    refine nc_q HC (q_pickF rfl rfl) rfl (by kernel_rfl) ?_
    clear HC a; intro a HC
    have H := HC.has; clear HC
    refine n_nil ?_
    refine then_normal ?_
    refine c_cond H rfl (fun hc35 => ?_) (fun hc35 => ?_)
    · skip
      cases hc35
    · skip
      refine wp_skip ?_
      refine then_normal ?_
      refine wp_seq ?_
      refine wp_region_lit ?_
      refine n_q H (q_move rfl) rfl ?_
      clear H a; intro a H
      refine n_nil ?_
      refine then_normal ?_
      refine wp_block ?_
      refine wp_seq ?_
      refine wp_region_lit ?_
      refine n_q H (q_tassert rfl (Tryd.un hv hne)) rfl ?_
      clear H a; intro a H
      refine n_q H (q_extract rfl rfl) rfl ?_
      clear H a; intro a H
      refine n_q H (q_extract rfl rfl) rfl ?_
      clear H a; intro a H
      refine n_nil ?_
      refine then_normal ?_
      refine c_cond H rfl (fun hc38 => ?_) (fun hc38 => ?_)
      · skip
        rw [q19] at hc38; cases hc38
      · skip
        refine wp_seq ?_
        refine wp_region_lit ?_
        refine n_q H (q_tassert rfl (Tryd.noUns hv hne)) rfl ?_
        clear H a; intro a H
        refine n_q H (q_extract rfl rfl) rfl ?_
        clear H a; intro a H
        refine n_q H (q_extract rfl rfl) rfl ?_
        clear H a; intro a H
        refine n_nil ?_
        refine then_normal ?_
        refine c_cond H rfl (fun hc45 => ?_) (fun hc45 => ?_)
        · skip
          cases hc45
        · skip
          refine wp_seq ?_
          refine wp_region_lit ?_
          refine n_q H (q_assign rfl) rfl ?_
          clear H a; intro a H
          refine n_nil ?_
          refine then_normal ?_
          refine wp_seq ?_
          refine wp_region_lit ?_
          refine n_q H (q_assign rfl) rfl ?_
          clear H a; intro a H
          refine n_nil ?_
          refine then_normal ?_
          refine wp_ret ?_
          refine block_ret ?_
          refine block_ret ?_
          refine then_ret ?_
          refine block_ret ?_
          replace hS := hS.pick 1 rfl
          dsimp only [List.eraseIdx] at hS
          replace hS := hS.take 1
          simp only [List.take_succ_cons, List.take_zero] at hS
          refine ret1 H (.inr rfl) rfl rfl ?_
          exact ⟨.pointer none, by rw [q19], fun h => absurd (q19.symm.trans h) (by simp), hS⟩

theorem Tryd.implA (w : World) : (ReflectliteType.relation "Implements" ReflectliteType.implements_ #[.agg #[.pointer (some ⟨25, 126, none⟩)], .iface 179 (.agg #[.pointer (some ⟨25, 33, none⟩)])]).run Tryd.prog w = .ok (.bool true) w := by kernel_rfl
theorem Tryd.cIm (w : World) : (callFunc 159 #[.agg #[.pointer (some ⟨25, 126, none⟩)], .iface 179 (.agg #[.pointer (some ⟨25, 33, none⟩)])]).run Tryd.prog w = .ok (.value (.bool true)) w := by
  rw [@run_callFunc_extern Tryd.prog 159 _ (ReflectliteType.relation "Implements" ReflectliteType.implements_) Tryd.func159 (by kernel_rfl) (by kernel_rfl) (by kernel_rfl) (by kernel_rfl)]
  exact congrArg (fun r : Result Value => r.andThen fun v w1 => Result.ok (Next.value v) w1) (Tryd.implA w)
/-- The variable that holds the type of errors. -/
def HE (w : World) : Prop := w.cell? ⟨21, 0, none⟩ = some (.iface 179 (.agg #[.pointer (some ⟨25, 33, none⟩)]))
theorem HE.ext {w w' : World} (h : HE w) (e : Ext w w') : HE w' := cell_ext h e
theorem as_w {w : World} {fp : Nat → Prop} {A : Nat → Addr} {u0 : Value} {e : ErrM} {bt : Nat} (hP0 : Sep w fp [blkR bt [.pointer none] 126]) (hv0 : ∀ w', ChgP fp w w' → IsE A w' u0 e) (hH : ∀ w', ChgP fp w w' → HE w') :
    Calls Tryd.prog 76 [u0, .iface 147 (.pointer (some ⟨bt, 0, none⟩))].toArray w (Ret fun r w' => ∃ x, r = .bool e.isAt ∧ ptrOf e u0 x ∧ St fp w w' [blkR bt [x] 126]) := by
  have hS := St.init hP0
  refine enter Tryd.func76 rfl rfl rfl ?_
  intro a H
  dsimp only [enumL, Nat.zero_add, Nat.reduceAdd] at H
  refine wp_seq ?_
  refine wp_region_lit ?_
  refine n_q H (q_assign rfl) rfl ?_
  clear H a; intro a H
  refine n_nil ?_
  refine then_normal ?_
  refine wp_seq ?_
  refine wp_seq ?_
  refine wp_region_lit ?_
  refine n_q H (q_move rfl) rfl ?_
  clear H a; intro a H
  refine n_q H (q_nilI Tryd.underlying33 rfl rfl (hv0 _ hS.chg).form) rfl ?_
  clear H a; intro a H
  refine n_nil ?_
  refine then_normal ?_
  refine c_cond H rfl (fun hc9 => ?_) (fun hc9 => ?_)
  · skip
    have q9 : e = .nil := by rw [(hv0 _ hS.chg).isNil] at hc9; exact of_decide_eq_true hc9
    refine wp_seq ?_
    refine wp_region_lit ?_
    refine n_q H (q_assign rfl) rfl ?_
    clear H a; intro a H
    refine n_nil ?_
    refine then_normal ?_
    refine wp_ret ?_
    refine then_ret ?_
    refine ret1 H (.inr rfl) rfl rfl ?_
    exact ⟨.pointer none, by rw [q9]; rfl, (fun h => by rw [q9] at h; cases h), hS⟩
  · skip
    have q9 : e ≠ .nil := by rw [(hv0 _ hS.chg).isNil] at hc9; exact of_decide_eq_false hc9
    refine wp_skip ?_
    refine then_normal ?_
    refine wp_seq ?_
    refine wp_seq ?_
    refine wp_region_lit ?_
    refine n_q H (q_move rfl) rfl ?_
    clear H a; intro a H
    refine n_q H (q_nilI Tryd.underlying20 rfl rfl (.inr ⟨_, _, rfl⟩)) rfl ?_
    clear H a; intro a H
    refine n_nil ?_
    refine then_normal ?_
    refine c_cond H rfl (fun hc11 => ?_) (fun hc11 => ?_)
    · skip
      cases hc11
    · skip
      refine wp_skip ?_
      refine then_normal ?_
      refine wp_seq ?_
      refine wp_region_lit ?_
      refine n_q H (q_move rfl) rfl ?_
      clear H a; intro a H
      refine n_ext1 H rfl (Tryd.cVO _ _) rfl ?_
      clear H; clear a; intro a H
      obtain ⟨w20, hw20⟩ : ∃ x, x = World.alloc w (.cells #[.pointer (some ⟨bt, 0, none⟩)] 147) := ⟨_, rfl⟩
      obtain ⟨vb, hvb⟩ : ∃ x, x = (World.heap w).size := ⟨_, rfl⟩
      rw [← hvb] at H
      have hN20 : Blk w20 vb [.pointer (some ⟨bt, 0, none⟩)] 147 := by rw [hw20, hvb]; exact Blk.new _ [.pointer (some ⟨bt, 0, none⟩)] 147
      rw [← hw20]
      replace hS := hS.newBlk hN20 (by rw [hw20]; exact Ext.alloc' _ _) hvb.symm
      refine n_alloc H ze169 rfl ?_
      clear H; intro b5 w1 hN hE2 hs_b5; clear a; intro a H
      replace hS := hS.newBlk hN hE2 hs_b5; clear hN hE2
      refine n_storeAll H rfl rfl rfl sz169 (hS.blk 0 rfl) rfl (by simp) ?_
      clear H; intro w3 hN hC4 hz; clear a; intro a H
      replace hS := hS.setBlk hN hC4; clear hN hz
      refine n_nil ?_
      refine then_normal ?_
      refine wp_seq ?_
      refine wp_region_lit ?_
      refine n_q H (q_load rfl ((hS.blk 0 rfl).ldAll ag169 sz169)) rfl ?_
      clear H a; intro a H
      refine n_q H (q_ext1 rfl rfl (fun w _ => Tryd.cTy _ w)) rfl ?_
      clear H a; intro a H
      refine n_q H (q_assign rfl) rfl ?_
      clear H a; intro a H
      refine n_nil ?_
      refine then_normal ?_
      refine wp_seq ?_
      refine wp_seq ?_
      refine wp_region_lit ?_
      refine n_c H (fun HC => ?_); clear H
      refine nc_q HC (q_move rfl) rfl (by kernel_rfl) ?_
      clear HC a; intro a HC
      refine nc_q HC (q_inv0 rfl (Tryd.mKind _) (fun w _ => Tryd.cKT w)) rfl (by kernel_rfl) ?_
      clear HC a; intro a HC
      refine nc_q HC (q_neq rfl rfl) rfl (by kernel_rfl) ?_
      clear HC a; intro a HC
      refine nc_q HC (q_move rfl) rfl (by kernel_rfl) ?_
      clear HC a; intro a HC
      refine nc_g HC (q_load rfl ((hS.blk 0 rfl).ldAll ag169 sz169)) (by kernel_rfl) (by kernel_rfl) (by kernel_rfl) ?_
      clear HC a; intro a HC
      refine nc_g HC (q_ext1 rfl rfl (fun w1 hw1 => Tryd.cNil _ _ _ (((hS.blk 1 rfl).ext hw1).cell 0))) (by kernel_rfl) (by kernel_rfl) (by kernel_rfl) ?_
      clear HC a; intro a HC
      refine nc_or (j := 3) HC rfl rfl rfl (by kernel_rfl) (by kernel_rfl) ?_
      clear HC a; intro a HC
      have H := HC.has; clear HC
      refine n_nil ?_
      refine then_normal ?_
      refine c_cond H rfl (fun hc23 => ?_) (fun hc23 => ?_)
      · skip
        exact absurd hc23 (by decide)
      · skip
        refine wp_skip ?_
        refine then_normal ?_
        refine wp_seq ?_
        refine wp_region_lit ?_
        refine n_q H (q_move rfl) rfl ?_
        clear H a; intro a H
        refine n_q H (q_inv0 rfl (Tryd.mElem _) (fun w _ => Tryd.cRE w)) rfl ?_
        clear H a; intro a H
        refine n_q H (q_assign rfl) rfl ?_
        clear H a; intro a H
        refine n_nil ?_
        refine then_normal ?_
        refine wp_seq ?_
        refine wp_seq ?_
        refine wp_region_lit ?_
        refine n_c H (fun HC => ?_); clear H
        refine nc_q HC (q_move rfl) rfl (by kernel_rfl) ?_
        clear HC a; intro a HC
        refine nc_q HC (q_inv0 rfl (Tryd.mKind _) (fun w _ => Tryd.cKA w)) rfl (by kernel_rfl) ?_
        clear HC a; intro a HC
        refine nc_q HC (q_neq rfl rfl) rfl (by kernel_rfl) ?_
        clear HC a; intro a HC
        refine nc_q HC (q_move rfl) rfl (by kernel_rfl) ?_
        clear HC a; intro a HC
        refine nc_g HC (q_move rfl) (by kernel_rfl) (by kernel_rfl) (by kernel_rfl) ?_
        clear HC a; intro a HC
        refine nc_g HC (q_load rfl (LdX.one ag155 (hH _ hS.chg))) (by kernel_rfl) (by kernel_rfl) (by kernel_rfl) ?_
        clear HC a; intro a HC
        refine nc_g HC (q_inv1 rfl rfl (Tryd.mImplements _) (fun w _ => Tryd.cIm w)) (by kernel_rfl) (by kernel_rfl) (by kernel_rfl) ?_
        clear HC a; intro a HC
        refine nc_g HC (q_not rfl) (by kernel_rfl) (by kernel_rfl) (by kernel_rfl) ?_
        clear HC a; intro a HC
        refine nc_and (j := 3) HC rfl rfl rfl (by kernel_rfl) (by kernel_rfl) ?_
        clear HC a; intro a HC
        have H := HC.has; clear HC
        refine n_nil ?_
        refine then_normal ?_
        refine c_cond H rfl (fun hc35 => ?_) (fun hc35 => ?_)
        · skip
          exact absurd hc35 (by decide)
        · skip
          refine wp_skip ?_
          refine then_normal ?_
          refine wp_seq ?_
          refine wp_region_lit ?_
          refine n_q H (q_move rfl) rfl ?_
          clear H a; intro a H
          refine n_q H (q_move rfl) rfl ?_
          clear H a; intro a H
          refine n_q H (q_load rfl ((hS.blk 0 rfl).ldAll ag169 sz169)) rfl ?_
          clear H a; intro a H
          refine n_q H (q_move rfl) rfl ?_
          clear H a; intro a H
          replace hS := hS.pick 1 rfl
          dsimp only [List.eraseIdx] at hS
          replace hS := hS.pick 2 rfl
          dsimp only [List.eraseIdx] at hS
          obtain ⟨fp41, hG41, hK41, hR41, hF41⟩ := hS.frame2
          refine n_call H rfl en92 (as_in hG41 (fun w' hw => hv0 w' (hK41 w' hw)) q9) rfl ?_
          clear H a; intro v7 w5 hv a H
          obtain ⟨xx, rfl, hpx, hE6⟩ := hv
          replace hS := hF41 _ _ hE6
          simp only [List.cons_append, List.nil_append] at hS
          clear hG41 hK41 hR41 hF41
          refine n_q H (q_assign rfl) rfl ?_
          clear H a; intro a H
          refine n_nil ?_
          refine then_normal ?_
          refine wp_ret ?_
          replace hS := hS.take 1
          simp only [List.take_succ_cons, List.take_zero] at hS
          refine ret1 H (.inr rfl) rfl rfl ?_
          exact ⟨xx, rfl, hpx, hS⟩

/-- api.Place. -/
theorem place_w {w : World} {A : Nat → Addr} {v0 : Value} {e : ErrM} (hH : HE w) (h : IsE A w v0 e) :
    Calls Tryd.prog 42 [v0].toArray w (Ret fun r w' => r = .int .i64 e.place ∧ Ext w w') := by
  have hS := St.begin NB w
  refine enter Tryd.func42 rfl rfl rfl ?_
  intro a H
  dsimp only [enumL, Nat.zero_add, Nat.reduceAdd] at H
  refine wp_seq ?_
  refine wp_region_lit ?_
  refine n_q H (q_assign rfl) rfl ?_
  clear H a; intro a H
  refine n_nil ?_
  refine then_normal ?_
  refine wp_seq ?_
  refine wp_region_lit ?_
  refine n_alloc H ze126 rfl ?_
  clear H; intro b3 w1 hN hE2 hs_b3; clear a; intro a H
  replace hS := hS.newBlk hN hE2 hs_b3; clear hN hE2
  refine n_nil ?_
  refine then_normal ?_
  refine wp_seq ?_
  refine wp_seq ?_
  refine wp_region_lit ?_
  refine n_q H (q_move rfl) rfl ?_
  clear H a; intro a H
  refine n_q H (q_makeInterface Tryd.underlying147 (by simp) rfl) rfl ?_
  clear H a; intro a H
  obtain ⟨fp6, hG6, hK6, hR6, hF6⟩ := hS.frame1
  refine n_call H rfl en76 (as_w hG6 (fun w' hw => h.ext (hK6 w' hw).ext) (fun w' hw => hH.ext (hK6 w' hw).ext)) rfl ?_
  clear H a; intro v5 w3 hv a H
  obtain ⟨xx, rfl, hpx, hE4⟩ := hv
  replace hS := hF6 _ _ hE4
  simp only [List.cons_append, List.nil_append] at hS
  clear hG6 hK6 hR6 hF6
  refine n_nil ?_
  refine then_normal ?_
  refine c_cond H rfl (fun hc6 => ?_) (fun hc6 => ?_)
  · skip
    obtain ⟨p1, g1, rfl⟩ : ∃ p g, e = .pl p g := by cases e <;> simp [ErrM.isAt] at hc6 ⊢
    obtain ⟨ap, hu, rfl⟩ := hpx rfl
    obtain ⟨hg1, b1, hu1, hc0, hc1⟩ := h.ext hS.x
    rw [hu] at hu1
    obtain rfl : ap = ⟨b1, 0, none⟩ := by simpa using hu1
    refine wp_seq ?_
    refine wp_region_lit ?_
    refine n_q H (q_load rfl ((hS.blk 0 rfl).ld ag126 rfl)) rfl ?_
    clear H a; intro a H
    refine n_q H (q_nilCheck rfl) rfl ?_
    clear H a; intro a H
    refine n_q H (q_fieldAddr rfl fo128_0) rfl ?_
    clear H a; intro a H
    refine n_q H (q_load rfl (LdX.one ag3 (show World.cell? _ ((⟨b1, 0, none⟩ : Addr).add 0) = some (.int .i64 p1) by rw [plain_add]; exact hc0))) rfl ?_
    clear H a; intro a H
    refine n_q H (q_assign rfl) rfl ?_
    clear H a; intro a H
    refine n_nil ?_
    refine then_normal ?_
    refine wp_ret ?_
    refine then_ret ?_
    refine ret1 H (.inr rfl) rfl rfl ?_
    exact ⟨rfl, hS.x⟩
  · skip
    have q6 : e.isAt = false := hc6
    refine wp_skip ?_
    refine then_normal ?_
    refine wp_seq ?_
    refine wp_region_lit ?_
    refine n_q H (q_assign rfl) rfl ?_
    clear H a; intro a H
    refine n_nil ?_
    refine then_normal ?_
    refine wp_ret ?_
    refine ret1 H (.inr rfl) rfl rfl ?_
    exact ⟨(by cases e <;> first | rfl | cases q6), hS.x⟩

end Go.Proofs.YtnhjohcgnmogaaaDoor
