/- Bt (written by wip/tools) -/
import Derived.Test.YtnhjohcgnmogaaaDoorErrW
import Derived.Test.YtnhjohcgnmogaaaDoorCop
import Derived.Test.YtnhjohcgnmogaaaDoorTab
set_option linter.unusedVariables false
set_option linter.unusedSimpArgs false
set_option maxRecDepth 10000
namespace Go.Proofs.YtnhjohcgnmogaaaDoor
open Go Go.RowKit


abbrev gShort : Nat := 1
abbrev gRest : Nat := 4
abbrev gTag : Nat := 5
abbrev gRange : Nat := 6
abbrev gLength : Nat := 7
abbrev gSum : Nat := 2
abbrev gKind : Nat := 8
abbrev gPlan : Nat := 9
abbrev gState : Nat := 10
abbrev gBase : Nat := 11
abbrev gSize : Nat := 12
abbrev gArg : Nat := 3
abbrev gEnd : Nat := 14
abbrev gBusy : Nat := 15
abbrev gDown : Nat := 16
abbrev gLost : Nat := 17
abbrev gNone : Nat := 18
abbrev gText : Nat := 0
abbrev gStop : Nat := 19
abbrev gDivide : Nat := 20
abbrev erQ (A : Nat → Addr) (u : Value) (e : ErrM) : Rs := anyR fun w => IsE A w u e
section
variable {fp : Nat → Prop} {w0 w : World} {rs : List Rs} {A : Nat → Addr} {b g : Nat} {p : Int}
theorem St.dAt (hg : g ∈ gAll) (h : St fp w0 w (blkR b [.int .i64 p, sv 253 A g] 128 :: rs)) : St fp w0 w (erQ A (.iface 126 (.pointer (some ⟨b, 0, none⟩))) (.pl p g) :: rs) := h.blkAny (fun w' h => IsErr.mk hg h)
theorem St.dVar (hg : g ∈ gAll) (h : St fp w0 w rs) : St fp w0 w (erQ A (sv 253 A g) (.v g) :: rs) := h.trivAny fun w' => ⟨hg, rfl⟩
theorem St.dAtE {r e : ErrM} {u : Value} {w2 : World} (hI : IsE A w2 u e) (he : errAt p e = some r) (h : St fp w0 w (blkR b [.int .i64 p, u] 128 :: rs)) : St fp w0 w (erQ A (.iface 126 (.pointer (some ⟨b, 0, none⟩))) r :: rs) := by
  obtain ⟨g, rfl, rfl⟩ := errAt_some he
  obtain ⟨hg, rfl⟩ := hI
  exact h.dAt hg
theorem St.dNil (h : St fp w0 w rs) : St fp w0 w (erQ A .nilIface .nil :: rs) := h.trivAny fun w' => rfl
end
def tab13 : Vector UInt8 32 := #v[0, 1, 28, 2, 29, 14, 24, 3, 30, 22, 20, 15, 25, 17, 4, 8, 31, 27, 13, 23, 21, 19, 16, 7, 26, 12, 18, 6, 11, 5, 10, 9]
/-- The variables that are arrays of bytes read as the text lays them. -/
def TV (w : World) : Prop := TabB w 13 tab13
theorem TV.ext {w w' : World} (h : TV w) (e : Ext w w') : TV w' := TabB.ext h e
noncomputable def g_crc_step (a0 : Int) : Option Int := (bif decide ((bitAnd .u32 a0 1) = 1) then some (bitXor .u32 (shR .u32 a0 1) 3988292384) else some (shR .u32 a0 1))
noncomputable def g_crc_table_L3 : (Int × Nat) → Option ((Int × Nat) ⊕ Int) := fun (z31, i32) => (bif decide (i32 < 8) then (g_crc_step z31).bind fun r36 => some (.inl (r36, i32 + 1)) else some (.inr z31))
noncomputable def g_crc_table_L4 : (Nat × Vector Int 256) → Option ((Nat × Vector Int 256) ⊕ (Vector Int 256)) := fun (i25, y26) => (bif decide (i25 < 256) then (iter g_crc_table_L3 ((IntKind.u32.wrap ((i25 : Nat) : Int)), 0)).bind (fun z31 => (rdV y26 ((i25 : Nat) : Int)).bind fun x40 => some (.inl (i25 + 1, (y26.setIfInBounds (((i25 : Nat) : Int).toNat) z31)))) else some (.inr y26))
noncomputable def g_crc_table : Option (Vector Int 256) := (iter g_crc_table_L4 (0, #v[0, 0, 0, 0, 0, 0, 0, 0, 0, 0, 0, 0, 0, 0, 0, 0, 0, 0, 0, 0, 0, 0, 0, 0, 0, 0, 0, 0, 0, 0, 0, 0, 0, 0, 0, 0, 0, 0, 0, 0, 0, 0, 0, 0, 0, 0, 0, 0, 0, 0, 0, 0, 0, 0, 0, 0, 0, 0, 0, 0, 0, 0, 0, 0, 0, 0, 0, 0, 0, 0, 0, 0, 0, 0, 0, 0, 0, 0, 0, 0, 0, 0, 0, 0, 0, 0, 0, 0, 0, 0, 0, 0, 0, 0, 0, 0, 0, 0, 0, 0, 0, 0, 0, 0, 0, 0, 0, 0, 0, 0, 0, 0, 0, 0, 0, 0, 0, 0, 0, 0, 0, 0, 0, 0, 0, 0, 0, 0, 0, 0, 0, 0, 0, 0, 0, 0, 0, 0, 0, 0, 0, 0, 0, 0, 0, 0, 0, 0, 0, 0, 0, 0, 0, 0, 0, 0, 0, 0, 0, 0, 0, 0, 0, 0, 0, 0, 0, 0, 0, 0, 0, 0, 0, 0, 0, 0, 0, 0, 0, 0, 0, 0, 0, 0, 0, 0, 0, 0, 0, 0, 0, 0, 0, 0, 0, 0, 0, 0, 0, 0, 0, 0, 0, 0, 0, 0, 0, 0, 0, 0, 0, 0, 0, 0, 0, 0, 0, 0, 0, 0, 0, 0, 0, 0, 0, 0, 0, 0, 0, 0, 0, 0, 0, 0, 0, 0, 0, 0, 0, 0, 0, 0, 0, 0, 0, 0, 0, 0, 0, 0, 0, 0, 0, 0, 0, 0])).bind (fun y26 => some y26)
noncomputable def g_crc_move_L1 (a1 : List UInt8) (r23 : Vector Int 256) : (Int × Nat) → Option ((Int × Nat) ⊕ Int) := fun (z30, i31) => (bif decide (i31 < a1.length) then (a1[i31]?).bind fun x35 => (rdV r23 (bitXor .u8 (IntKind.u8.wrap z30) (x35.toNat : Int))).bind fun x36 => some (.inl ((bitXor .u32 x36 (shR .u32 z30 8)), i31 + 1)) else some (.inr z30))
noncomputable def g_crc_move (a0 : Int) (a1 : List UInt8) : Option Int := (bif decide (a1.length = 0) then some a0 else (g_crc_table).bind fun r23 => (iter (g_crc_move_L1 a1 r23) (a0, 0)).bind (fun z30 => some z30))
noncomputable def g_crc_More (a0 : Int) (a1 : List UInt8) : Option Int := (g_crc_move (notK .u32 a0) a1).bind fun r21 => some (notK .u32 r21)
noncomputable def g_crc_Sum (a0 : List UInt8) : Option Int := (g_crc_More 0 a0).bind fun r21 => some r21
noncomputable def g_bytes_Clone (a0 : List UInt8) : Option (List UInt8) := chk ((([] : List UInt8).length + a0.length) * 1 ≤ 140737488355328) (some (([] : List UInt8) ++ a0))
noncomputable def g_crc_laid (a0 : Int) : Option (List UInt8) := some [(byteOf a0), (byteOf (shR .u32 a0 8)), (byteOf (shR .u32 a0 16)), (byteOf (shR .u32 a0 24))]
noncomputable def g_crc_Seal (a0 : List UInt8) : Option (List UInt8) := (g_bytes_Clone a0).bind fun r21 => (g_crc_Sum a0).bind fun r27 => (g_crc_laid r27).bind fun r31 => chk ((r21.length + r31.length) * 1 ≤ 140737488355328) (some (r21 ++ r31))
noncomputable def g_bytes_Equal (a0 : List UInt8) (a1 : List UInt8) : Option Bool := some (decide ((strB a0) = (strB a1)))
noncomputable def g_crc_Open (a0 : List UInt8) : Option (List UInt8 × ErrM) := (bif decide (a0.length < 4) then some (([] : List UInt8), (.v gShort)) else chk (0 ≤ (IntKind.i64.wrap (((a0.length : Nat) : Int) - 4)) ∧ (IntKind.i64.wrap (((a0.length : Nat) : Int) - 4)) ≤ a0.length) (chk (0 ≤ (((a0.take (IntKind.i64.wrap (((a0.length : Nat) : Int) - 4)).toNat).length : Nat) : Int) ∧ (((a0.take (IntKind.i64.wrap (((a0.length : Nat) : Int) - 4)).toNat).length : Nat) : Int) ≤ ((a0.length : Nat) : Int) ∧ ((a0.length : Nat) : Int) ≤ ((a0.length : Nat) : Int)) ((g_crc_Sum (a0.take (IntKind.i64.wrap (((a0.length : Nat) : Int) - 4)).toNat)).bind fun r36 => (g_crc_laid r36).bind fun r40 => (g_bytes_Equal r40 ((a0.drop (((a0.take (IntKind.i64.wrap (((a0.length : Nat) : Int) - 4)).toNat).length : Nat) : Int).toNat).take (((a0.length : Nat) : Int).toNat - (((a0.take (IntKind.i64.wrap (((a0.length : Nat) : Int) - 4)).toNat).length : Nat) : Int).toNat))).bind fun r46 => (bif (!r46) then some (([] : List UInt8), (.v gSum)) else (g_bytes_Clone (a0.take (IntKind.i64.wrap (((a0.length : Nat) : Int) - 4)).toNat)).bind fun r55 => some (r55, .nil)))))
noncomputable def g_math_bits_Len32_J1 : (Int × Int) → Option Int := fun (z1027, z1028) => (rdS ⟨#[0, 1, 2, 2, 3, 3, 3, 3, 4, 4, 4, 4, 4, 4, 4, 4, 5, 5, 5, 5, 5, 5, 5, 5, 5, 5, 5, 5, 5, 5, 5, 5, 6, 6, 6, 6, 6, 6, 6, 6, 6, 6, 6, 6, 6, 6, 6, 6, 6, 6, 6, 6, 6, 6, 6, 6, 6, 6, 6, 6, 6, 6, 6, 6, 7, 7, 7, 7, 7, 7, 7, 7, 7, 7, 7, 7, 7, 7, 7, 7, 7, 7, 7, 7, 7, 7, 7, 7, 7, 7, 7, 7, 7, 7, 7, 7, 7, 7, 7, 7, 7, 7, 7, 7, 7, 7, 7, 7, 7, 7, 7, 7, 7, 7, 7, 7, 7, 7, 7, 7, 7, 7, 7, 7, 7, 7, 7, 7, 8, 8, 8, 8, 8, 8, 8, 8, 8, 8, 8, 8, 8, 8, 8, 8, 8, 8, 8, 8, 8, 8, 8, 8, 8, 8, 8, 8, 8, 8, 8, 8, 8, 8, 8, 8, 8, 8, 8, 8, 8, 8, 8, 8, 8, 8, 8, 8, 8, 8, 8, 8, 8, 8, 8, 8, 8, 8, 8, 8, 8, 8, 8, 8, 8, 8, 8, 8, 8, 8, 8, 8, 8, 8, 8, 8, 8, 8, 8, 8, 8, 8, 8, 8, 8, 8, 8, 8, 8, 8, 8, 8, 8, 8, 8, 8, 8, 8, 8, 8, 8, 8, 8, 8, 8, 8, 8, 8, 8, 8, 8, 8, 8, 8, 8, 8, 8, 8, 8, 8, 8, 8, 8, 8, 8, 8, 8, 8]⟩ (IntKind.u8.wrap z1027)).bind fun c1031 => some (IntKind.i64.wrap (z1028 + (IntKind.i64.wrap c1031)))
noncomputable def g_math_bits_Len32_J2 : (Int × Nat) → Option Int := fun (z522, i523) => (((bif decide (256 ≤ z522) then some ((shR .u32 z522 8), (IntKind.i64.wrap (((i523 : Nat) : Int) + 8))) else some (z522, ((i523 : Nat) : Int)))) : Option (Int × Int)).bind (fun p => g_math_bits_Len32_J1 p)
noncomputable def g_math_bits_Len32 (a0 : Int) : Option Int := (((bif decide (65536 ≤ a0) then some ((shR .u32 a0 16), 16) else some (a0, 0))) : Option (Int × Nat)).bind (fun p => g_math_bits_Len32_J2 p)
noncomputable def g_math_bits_TrailingZeros32 (a0 : Int) : Option Int := (bif decide (a0 = 0) then some 32 else (rdV tab13 (shR .u32 (IntKind.u32.wrap ((bitAnd .u32 a0 (IntKind.u32.wrap (0 - a0))) * 125613361)) 27)).bind fun x22 => some (x22.toNat : Int))
noncomputable def g_crc_Turn_L2 (a1 : Int) : (Int × List UInt8) → Option ((Int × List UInt8) ⊕ (List UInt8)) := fun (z549, l550) => (bif (!decide (z549 = 0)) then (g_math_bits_TrailingZeros32 z549).bind fun r555 => (rdI l550 (IntKind.i64.wrap ((IntKind.i64.wrap (Int.tdiv a1 8)) + (IntKind.i64.wrap (Int.tdiv (IntKind.i64.wrap ((Int.tmod a1 8) + r555)) 8))))).bind fun x563 => chk (0 ≤ (Int.tmod (IntKind.i64.wrap ((Int.tmod a1 8) + r555)) 8)) ((rdI l550 (IntKind.i64.wrap ((IntKind.i64.wrap (Int.tdiv a1 8)) + (IntKind.i64.wrap (Int.tdiv (IntKind.i64.wrap ((Int.tmod a1 8) + r555)) 8))))).bind fun x565 => some (.inl ((bitAnd .u32 z549 (IntKind.u32.wrap (z549 - 1))), (l550.set ((IntKind.i64.wrap ((IntKind.i64.wrap (Int.tdiv a1 8)) + (IntKind.i64.wrap (Int.tdiv (IntKind.i64.wrap ((Int.tmod a1 8) + r555)) 8)))).toNat) (byteOf (bitXor .u8 (x563.toNat : Int) (shL .u8 1 (Int.tmod (IntKind.i64.wrap ((Int.tmod a1 8) + r555)) 8)))))))) else some (.inr l550))
noncomputable def g_crc_Turn_J3 (a0 : List UInt8) (a1 : Int) (a2 : Int) : Bool → Option (List UInt8 × ErrM) := fun q522 => (bif q522 then some (([] : List UInt8), (.v gArg)) else (g_math_bits_Len32 a2).bind fun r532 => (bif decide (((a0.length : Nat) : Int) ≤ (IntKind.i64.wrap ((IntKind.i64.wrap (Int.tdiv a1 8)) + (IntKind.i64.wrap (Int.tdiv (IntKind.i64.wrap ((IntKind.i64.wrap ((Int.tmod a1 8) + r532)) - 1)) 8))))) then some (([] : List UInt8), (.v gArg)) else (g_bytes_Clone a0).bind fun r542 => (iter (g_crc_Turn_L2 a1) (a2, r542)).bind (fun l550 => some (l550, .nil))))
noncomputable def g_crc_Turn (a0 : List UInt8) (a1 : Int) (a2 : Int) : Option (List UInt8 × ErrM) := (((bif decide (a2 = 0) then some true else (bif decide (a1 < 0) then some true else some (decide (((a0.length : Nat) : Int) ≤ (IntKind.i64.wrap (Int.tdiv a1 8))))))) : Option Bool).bind (fun p => (g_crc_Turn_J3 a0 a1 a2) p)
structure GWireWriter where
  buf_ : List UInt8
  err_ : ErrM
  deriving DecidableEq
noncomputable def g_wire_NewWriter : Option GWireWriter := some (⟨([] : List UInt8), .nil⟩ : GWireWriter)
noncomputable def g_wire_most (a0 : Int) : Option Int := chk (0 ≤ (IntKind.i64.wrap (8 * a0))) (some (IntKind.i64.wrap ((shL .i64 1 (IntKind.i64.wrap (8 * a0))) - 1)))
noncomputable def g_wire_at (a0 : Int) (a1 : ErrM) : Option ErrM := (errAt a0 a1).bind fun r24 => some r24
noncomputable def g_wire_Writer_spoil (a0 : GWireWriter) (a1 : ErrM) : Option GWireWriter := (bif decide (a0.err_ = .nil) then (g_wire_at ((a0.buf_.length : Nat) : Int) a1).bind fun r23 => some (⟨a0.buf_, r23⟩ : GWireWriter) else some (⟨a0.buf_, a0.err_⟩ : GWireWriter))
noncomputable def g_wire_Writer_put (a0 : GWireWriter) (a1 : List UInt8) : Option GWireWriter := (bif decide (a0.err_ = .nil) then chk ((a0.buf_.length + a1.length) * 1 ≤ 140737488355328) (some (⟨(a0.buf_ ++ a1), a0.err_⟩ : GWireWriter)) else some (⟨a0.buf_, a0.err_⟩ : GWireWriter))
noncomputable def g_wire_Writer_num_L2 (a1 : Int) : (Int × List UInt8 × ErrM) → Option ((Int × List UInt8 × ErrM) ⊕ (List UInt8 × ErrM)) := fun (z539, l540, e543) => (bif decide (0 ≤ z539) then chk (0 ≤ (IntKind.i64.wrap (8 * z539))) ((g_wire_Writer_put (⟨l540, e543⟩ : GWireWriter) [(byteOf (shR .i64 a1 (IntKind.i64.wrap (8 * z539))))]).bind fun r554 => some (.inl ((IntKind.i64.wrap (z539 - 1)), r554.buf_, r554.err_))) else some (.inr (l540, e543)))
noncomputable def g_wire_Writer_num_J3 (a0 : GWireWriter) (a1 : Int) (a2 : Int) : Bool → Option GWireWriter := fun q522 => (bif q522 then (g_wire_Writer_spoil (⟨a0.buf_, a0.err_⟩ : GWireWriter) (.v gRange)).bind fun r531 => some (⟨r531.buf_, r531.err_⟩ : GWireWriter) else (iter (g_wire_Writer_num_L2 a1) ((IntKind.i64.wrap (a2 - 1)), a0.buf_, a0.err_)).bind (fun (l540, e543) => some (⟨l540, e543⟩ : GWireWriter)))
noncomputable def g_wire_Writer_num (a0 : GWireWriter) (a1 : Int) (a2 : Int) : Option GWireWriter := (((bif decide (a1 < 0) then some true else (g_wire_most a2).bind fun r524 => some (decide (r524 < a1)))) : Option Bool).bind (fun p => (g_wire_Writer_num_J3 a0 a1 a2) p)
noncomputable def g_wire_Writer_Record_J1 (a0 : GWireWriter) (a1 : Int) (a2 : List UInt8) : Bool → Option GWireWriter := fun q522 => (bif q522 then (g_wire_Writer_spoil (⟨a0.buf_, a0.err_⟩ : GWireWriter) (.v gTag)).bind fun r531 => some (⟨r531.buf_, r531.err_⟩ : GWireWriter) else (bif decide (65535 < a2.length) then (g_wire_Writer_spoil (⟨a0.buf_, a0.err_⟩ : GWireWriter) (.v gLength)).bind fun r541 => some (⟨r541.buf_, r541.err_⟩ : GWireWriter) else (g_wire_Writer_num (⟨a0.buf_, a0.err_⟩ : GWireWriter) a1 1).bind fun r549 => (g_wire_Writer_num (⟨r549.buf_, r549.err_⟩ : GWireWriter) ((a2.length : Nat) : Int) 2).bind fun r557 => (g_wire_Writer_put (⟨r557.buf_, r557.err_⟩ : GWireWriter) a2).bind fun r565 => some (⟨r565.buf_, r565.err_⟩ : GWireWriter)))
noncomputable def g_wire_Writer_Record (a0 : GWireWriter) (a1 : Int) (a2 : List UInt8) : Option GWireWriter := (((bif decide (a1 < 1) then some true else (g_wire_most 1).bind fun r524 => some (decide (r524 < a1)))) : Option Bool).bind (fun p => (g_wire_Writer_Record_J1 a0 a1 a2) p)
noncomputable def g_slices_Clone_byte (a0 : List UInt8) : Option (List UInt8) := chk ((([] : List UInt8).length + a0.length) * 1 ≤ 140737488355328) (some (([] : List UInt8) ++ a0))
noncomputable def g_wire_Writer_Done (a0 : GWireWriter) : Option (List UInt8 × ErrM × GWireWriter) := (bif (!decide (a0.err_ = .nil)) then some (([] : List UInt8), a0.err_, (⟨a0.buf_, a0.err_⟩ : GWireWriter)) else (g_slices_Clone_byte a0.buf_).bind fun r25 => some (r25, .nil, (⟨a0.buf_, a0.err_⟩ : GWireWriter)))
structure GWireRec where
  Tag : Int
  Body : List UInt8
  deriving DecidableEq
def RGWireRec (w : World) (cs : List Value) (x : GWireRec) : Prop := ∃ v0, cs = [.int .i64 x.Tag, v0] ∧ SlR w 1 (Flat eB) v0 x.Body
theorem RGWireRec.mono : Mono RGWireRec := by
  intro w w' cs x e h
  obtain ⟨v0, rfl, h0⟩ := h
  exact ⟨v0, rfl, h0.agr (Flat.mono _) e⟩
noncomputable def g_wire_Join_L1 (a0 : List GWireRec) : (Nat × List UInt8 × ErrM) → Option ((Nat × List UInt8 × ErrM) ⊕ (List UInt8 × ErrM)) := fun (i31, l32, e35) => (bif decide (i31 < a0.length) then (a0[i31]?).bind fun x41 => (g_wire_Writer_Record (⟨l32, e35⟩ : GWireWriter) x41.Tag x41.Body).bind fun r48 => some (.inl (i31 + 1, r48.buf_, r48.err_)) else some (.inr (l32, e35)))
noncomputable def g_wire_Join (a0 : List GWireRec) : Option (List UInt8 × ErrM) := (g_wire_NewWriter).bind fun r21 => (iter (g_wire_Join_L1 a0) (0, r21.buf_, r21.err_)).bind (fun (l32, e35) => (g_wire_Writer_Done (⟨l32, e35⟩ : GWireWriter)).bind fun r56 => some (r56.1, r56.2.1))
structure GWireCursor where
  b_ : List UInt8
  at_ : Int
  bound_ : Int
  deriving DecidableEq
def RGWireCursor (w : World) (cs : List Value) (x : GWireCursor) : Prop := ∃ v0, cs = [v0, .int .i64 x.at_, .int .i64 x.bound_] ∧ SlR w 1 (Flat eB) v0 x.b_
theorem RGWireCursor.mono : Mono RGWireCursor := by
  intro w w' cs x e h
  obtain ⟨v0, rfl, h0⟩ := h
  exact ⟨v0, rfl, h0.agr (Flat.mono _) e⟩
noncomputable def g_wire_Open (a0 : List UInt8) : Option GWireCursor := (g_slices_Clone_byte a0).bind fun r21 => some (⟨r21, 0, ((a0.length : Nat) : Int)⟩ : GWireCursor)
noncomputable def g_wire_Cursor_Left (a0 : GWireCursor) : Option (Int × GWireCursor) := some ((IntKind.i64.wrap (a0.bound_ - a0.at_)), (⟨a0.b_, a0.at_, a0.bound_⟩ : GWireCursor))
noncomputable def g_wire_Cursor_peek_L1 (a0 : GWireCursor) (a1 : Int) (a2 : Int) : (Int × Nat) → Option ((Int × Nat) ⊕ Int) := fun (z30, i29) => (bif decide (i29 < ((a0.b_.drop (IntKind.i64.wrap (a0.at_ + a1)).toNat).take ((IntKind.i64.wrap ((IntKind.i64.wrap (a0.at_ + a1)) + a2)).toNat - (IntKind.i64.wrap (a0.at_ + a1)).toNat)).length) then (((a0.b_.drop (IntKind.i64.wrap (a0.at_ + a1)).toNat).take ((IntKind.i64.wrap ((IntKind.i64.wrap (a0.at_ + a1)) + a2)).toNat - (IntKind.i64.wrap (a0.at_ + a1)).toNat))[i29]?).bind fun x34 => some (.inl ((bitOr .i64 (shL .i64 z30 8) (x34.toNat : Int)), i29 + 1)) else some (.inr z30))
noncomputable def g_wire_Cursor_peek (a0 : GWireCursor) (a1 : Int) (a2 : Int) : Option (Int × GWireCursor) := chk (0 ≤ (IntKind.i64.wrap (a0.at_ + a1)) ∧ (IntKind.i64.wrap (a0.at_ + a1)) ≤ (IntKind.i64.wrap ((IntKind.i64.wrap (a0.at_ + a1)) + a2)) ∧ (IntKind.i64.wrap ((IntKind.i64.wrap (a0.at_ + a1)) + a2)) ≤ ((a0.b_.length : Nat) : Int)) ((iter (g_wire_Cursor_peek_L1 a0 a1 a2) (0, 0)).bind (fun z30 => some (z30, (⟨a0.b_, a0.at_, a0.bound_⟩ : GWireCursor))))
noncomputable def g_wire_Cursor_head (a0 : GWireCursor) : Option (Int × Int × ErrM × GWireCursor) := (g_wire_Cursor_Left (⟨a0.b_, a0.at_, a0.bound_⟩ : GWireCursor)).bind fun r22 => (bif decide (r22.1 < 3) then (g_wire_at r22.2.at_ (.v gShort)).bind fun r31 => some (0, 0, r31, (⟨a0.b_, r22.2.at_, r22.2.bound_⟩ : GWireCursor)) else (g_wire_Cursor_peek (⟨a0.b_, r22.2.at_, r22.2.bound_⟩ : GWireCursor) 0 1).bind fun r38 => (g_wire_Cursor_peek (⟨a0.b_, r38.2.at_, r38.2.bound_⟩ : GWireCursor) 1 2).bind fun r44 => some (r38.1, r44.1, .nil, (⟨a0.b_, r44.2.at_, r44.2.bound_⟩ : GWireCursor)))
noncomputable def g_wire_Cursor_enter (a0 : GWireCursor) (a1 : Int) : Option (Option GWireCursor × ErrM × GWireCursor) := (g_wire_Cursor_Left (⟨a0.b_, a0.at_, a0.bound_⟩ : GWireCursor)).bind fun r22 => (bif decide ((IntKind.i64.wrap (r22.1 - 3)) < a1) then (g_wire_at (IntKind.i64.wrap (r22.2.at_ + 1)) (.v gLength)).bind fun r31 => some (none, r31, (⟨a0.b_, r22.2.at_, r22.2.bound_⟩ : GWireCursor)) else some (some (⟨a0.b_, (IntKind.i64.wrap (r22.2.at_ + 3)), (IntKind.i64.wrap ((IntKind.i64.wrap (r22.2.at_ + 3)) + a1))⟩ : GWireCursor), .nil, (⟨a0.b_, (IntKind.i64.wrap ((IntKind.i64.wrap (r22.2.at_ + 3)) + a1)), r22.2.bound_⟩ : GWireCursor)))
noncomputable def g_wire_Cursor_Next (a0 : GWireCursor) : Option (Int × Option GWireCursor × ErrM × GWireCursor) := (g_wire_Cursor_head (⟨a0.b_, a0.at_, a0.bound_⟩ : GWireCursor)).bind fun r22 => (bif (!decide (r22.2.2.1 = .nil)) then some (0, none, r22.2.2.1, (⟨a0.b_, r22.2.2.2.at_, r22.2.2.2.bound_⟩ : GWireCursor)) else (bif decide (r22.1 = 0) then (g_wire_at r22.2.2.2.at_ (.v gTag)).bind fun r35 => some (0, none, r35, (⟨a0.b_, r22.2.2.2.at_, r22.2.2.2.bound_⟩ : GWireCursor)) else (g_wire_Cursor_enter (⟨a0.b_, r22.2.2.2.at_, r22.2.2.2.bound_⟩ : GWireCursor) r22.2.1).bind fun r43 => (bif (!decide (r43.2.1 = .nil)) then some (0, none, r43.2.1, (⟨a0.b_, r43.2.2.at_, r43.2.2.bound_⟩ : GWireCursor)) else some (r22.1, r43.1, .nil, (⟨a0.b_, r43.2.2.at_, r43.2.2.bound_⟩ : GWireCursor)))))
noncomputable def g_wire_Cursor_body (a0 : GWireCursor) : Option (List UInt8 × GWireCursor) := chk (0 ≤ a0.at_ ∧ a0.at_ ≤ a0.bound_ ∧ a0.bound_ ≤ ((a0.b_.length : Nat) : Int)) ((g_slices_Clone_byte ((a0.b_.drop a0.at_.toNat).take (a0.bound_.toNat - a0.at_.toNat))).bind fun r27 => some (r27, (⟨a0.b_, a0.at_, a0.bound_⟩ : GWireCursor)))
noncomputable def g_wire_Split_L1 (r21 : GWireCursor) : (List GWireRec × Int × Int) → Option ((List GWireRec × Int × Int) ⊕ ((List GWireRec) ⊕ (List GWireRec × ErrM))) := fun (l29, z32, z33) => (g_wire_Cursor_Left (⟨r21.b_, z32, z33⟩ : GWireCursor)).bind fun r37 => (bif decide (0 < r37.1) then (g_wire_Cursor_Next (⟨r21.b_, r37.2.at_, r37.2.bound_⟩ : GWireCursor)).bind fun r44 => (bif (!decide (r44.2.2.1 = .nil)) then some (.inr (.inr (([] : List GWireRec), r44.2.2.1))) else (r44.2.1).bind fun x55 => (g_wire_Cursor_body (⟨r21.b_, x55.at_, x55.bound_⟩ : GWireCursor)).bind fun r58 => chk ((l29.length + 1) * 32 ≤ 140737488355328) (some (.inl ((l29 ++ [(⟨r44.1, r58.1⟩ : GWireRec)]), r44.2.2.2.at_, r44.2.2.2.bound_)))) else some (.inr (.inl l29)))
noncomputable def g_wire_Split (a0 : List UInt8) : Option (List GWireRec × ErrM) := (g_wire_Open a0).bind fun r21 => (iter (g_wire_Split_L1 r21) (([] : List GWireRec), r21.at_, r21.bound_)).bind (fun q => match q with | .inl l29 => some (l29, .nil) | .inr p => some p)
noncomputable def g_top_recordCut_J2 (r544 : List UInt8 × ErrM) : Int → Option Bool := fun z1592 => (bif decide (((r544.1.length : Nat) : Int) ≤ z1592) then some true else chk (0 ≤ z1592 ∧ z1592 ≤ r544.1.length) (chk ((([] : List UInt8).length + (r544.1.take z1592.toNat).length) * 1 ≤ 140737488355328) ((g_wire_Split (([] : List UInt8) ++ (r544.1.take z1592.toNat))).bind fun r1607 => some (!decide (r1607.2 = .nil)))))
noncomputable def g_top_recordCut_J3 (a1 : Int) (r544 : List UInt8 × ErrM) : Bool → Option Bool := fun q1073 => (bif q1073 then some false else chk (((r544.1.length : Nat) : Int) ≠ 0) ((((bif decide ((Int.tmod a1 ((r544.1.length : Nat) : Int)) < 1) then some 1 else some (Int.tmod a1 ((r544.1.length : Nat) : Int)))) : Option Int).bind (fun p => (g_top_recordCut_J2 r544) p)))
noncomputable def g_top_recordCut_J4 (a1 : Int) : (List UInt8) → Option Bool := fun l522 => chk ((([] : List UInt8).length + l522.length) * 1 ≤ 140737488355328) ((g_wire_Join [(⟨7, (([] : List UInt8) ++ l522)⟩ : GWireRec)]).bind fun r544 => (bif ((!decide (r544.2 = .nil)) || (!decide (((r544.1.length : Nat) : Int) = (IntKind.i64.wrap (((l522.length : Nat) : Int) + 3))))) then some false else chk ((([] : List UInt8).length + r544.1.length) * 1 ≤ 140737488355328) ((g_wire_Split (([] : List UInt8) ++ r544.1)).bind fun r564 => (((bif (!decide (r564.2 = .nil)) then some true else (bif (!decide (r564.1.length = 1)) then some true else (r564.1[0]?).bind fun x1081 => (bif (!decide (x1081.Tag = 7)) then some true else (r564.1[0]?).bind fun x1085 => some (!decide ((strB x1085.Body) = (strB l522))))))) : Option Bool).bind (fun p => (g_top_recordCut_J3 a1 r544) p))))
noncomputable def g_top_recordCut (a0 : List UInt8) (a1 : Int) : Option Bool := (((bif decide (60000 < a0.length) then chk (0 ≤ (60000 : Int) ∧ (60000 : Int) ≤ a0.length) (some (a0.take (60000 : Int).toNat)) else some a0)) : Option (List UInt8)).bind (fun p => (g_top_recordCut_J4 a1) p)
structure GTopHurt where
  B : List UInt8
  At : Int
  Mask : Int
  Cut : Int
  deriving DecidableEq
def RGTopHurt (w : World) (cs : List Value) (x : GTopHurt) : Prop := ∃ v0, cs = [v0, .int .i64 x.At, .int .u32 x.Mask, .int .i64 x.Cut] ∧ SlR w 1 (Flat eB) v0 x.B
theorem RGTopHurt.mono : Mono RGTopHurt := by
  intro w w' cs x e h
  obtain ⟨v0, rfl, h0⟩ := h
  exact ⟨v0, rfl, h0.agr (Flat.mono _) e⟩
noncomputable def g_top_FerryBurstsTold_J7 : Bool → Option Bool := fun q1605 => some q1605
noncomputable def g_top_FerryBurstsTold_J9 (a0 : GTopHurt) (r44 : List UInt8) (r1095 : List UInt8 × ErrM) : Bool → Option Bool := fun q2133 => (bif q2133 then some false else (g_crc_Turn r1095.1 a0.At a0.Mask).bind fun r2140 => (bif decide (r2140.2 = .nil) then (bif decide ((strB r2140.1) = (strB r44)) then (g_top_recordCut a0.B a0.Cut).bind fun r2150 => some r2150 else some false) else some false))
noncomputable def g_top_FerryBurstsTold_J10 (z577 : Int) : Bool → Option (Int ⊕ Int) := fun q1080 => (bif q1080 then some (.inl (IntKind.i64.wrap (z577 - 1))) else some (.inr z577))
noncomputable def g_top_FerryBurstsTold_L11 (a0 : GTopHurt) : Int → Option (Int ⊕ Int) := fun z577 => (((bif decide (0 < z577) then chk (0 ≤ z577) (some (decide ((shR .u32 a0.Mask z577) = 0))) else some false)) : Option Bool).bind (fun p => (g_top_FerryBurstsTold_J10 z577) p)
noncomputable def g_top_FerryBurstsTold_J12 (a0 : GTopHurt) (r44 : List UInt8) : Bool → Option Bool := fun q568 => (bif q568 then some false else (iter (g_top_FerryBurstsTold_L11 a0) 31).bind (fun z577 => chk ((([] : List UInt8).length + r44.length) * 1 ≤ 140737488355328) ((g_crc_Turn (([] : List UInt8) ++ r44) a0.At a0.Mask).bind fun r1095 => (bif (!(((!decide (a0.Mask = 0)) && decide (0 ≤ a0.At)) && decide (a0.At ≤ (IntKind.i64.wrap ((IntKind.i64.wrap ((IntKind.i64.wrap (8 * ((r44.length : Nat) : Int))) - 1)) - z577))))) then (((bif decide ((ErrM.code r1095.2) = 12) then (g_top_recordCut a0.B a0.Cut).bind fun r1610 => some r1610 else some false)) : Option Bool).bind (fun p => g_top_FerryBurstsTold_J7 p) else chk ((([] : List UInt8).length + r1095.1.length) * 1 ≤ 140737488355328) ((g_crc_Open (([] : List UInt8) ++ r1095.1)).bind fun r1624 => (((bif (!decide (r1095.2 = .nil)) then some true else some (!decide ((ErrM.code r1624.2) = 6)))) : Option Bool).bind (fun p => (g_top_FerryBurstsTold_J9 a0 r44 r1095) p))))))
noncomputable def g_top_FerryBurstsTold (a0 : GTopHurt) : Option Bool := (g_crc_Sum [(byteOf 49), (byteOf 50), (byteOf 51), (byteOf 52), (byteOf 53), (byteOf 54), (byteOf 55), (byteOf 56), (byteOf 57)]).bind fun r30 => (bif (!decide (r30 = 3421780262)) then some false else chk ((([] : List UInt8).length + a0.B.length) * 1 ≤ 140737488355328) ((g_crc_Seal (([] : List UInt8) ++ a0.B)).bind fun r44 => chk ((([] : List UInt8).length + r44.length) * 1 ≤ 140737488355328) ((g_crc_Open (([] : List UInt8) ++ r44)).bind fun r59 => (((bif (!decide (r59.2 = .nil)) then some true else (bif (!decide (((r44.length : Nat) : Int) = (IntKind.i64.wrap (((a0.B.length : Nat) : Int) + 4)))) then some true else some (!decide ((strB r59.1) = (strB a0.B)))))) : Option Bool).bind (fun p => (g_top_FerryBurstsTold_J12 a0 r44) p))))
end Go.Proofs.YtnhjohcgnmogaaaDoor
