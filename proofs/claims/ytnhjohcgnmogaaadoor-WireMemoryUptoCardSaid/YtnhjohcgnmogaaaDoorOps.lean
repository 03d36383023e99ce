/- More operations that leave the world alone: integers in their ranges, bools, strings, slices, struct values. No program is named here. -/
import Derived.Test.YtnhjohcgnmogaaaDoorStep
set_option linter.unusedVariables false
set_option linter.unusedSimpArgs false
set_option linter.unusedSectionVars false
namespace Go.Proofs.YtnhjohcgnmogaaaDoor
open Go Go.RowKit

section
variable {P : Program} {L : Operand → Option Value} {C : World → Prop} {x y z : Operand} {t t' : TypeId}

theorem q_cast {op : Op} {v u : Value} (q : Q1 P L op C v) (h : v = u) : Q1 P L op C u := h ▸ q

section i64
variable {a b : Int} (ex : L x = some (.int .i64 a)) (ey : L y = some (.int .i64 b))
include ex ey
theorem q_add (h : I64 (a + b)) : Q1 P L (.binOp .add t x y t') C (.int .i64 (a + b)) := q_cast (q_addW ex ey) (by rw [wrap64_eq h])
theorem q_sub (h : I64 (a - b)) : Q1 P L (.binOp .sub t x y t') C (.int .i64 (a - b)) := q_cast (q_subW ex ey) (by rw [wrap64_eq h])
theorem q_mul (h : I64 (a * b)) : Q1 P L (.binOp .mul t x y t') C (.int .i64 (a * b)) := q_cast (q_mulW ex ey) (by rw [wrap64_eq h])
/-- a / b, a % b where both are not negative. -/
theorem q_quo (ha : 0 ≤ a) (hm : a ≤ 9223372036854775807) (hb : 0 < b) : Q1 P L (.binOp .quo t x y t') C (.int .i64 (a / b)) := by
  refine q_cast (q_quoW ex ey (by omega)) ?_
  rw [Int.tdiv_eq_ediv_of_nonneg ha, wrap64_eq]
  have h0 : 0 ≤ a / b := Int.ediv_nonneg ha (by omega)
  have h1 : a / b ≤ a := Int.ediv_le_self _ ha
  constructor <;> omega
theorem q_rem (ha : 0 ≤ a) (hb : 0 < b) : Q1 P L (.binOp .rem t x y t') C (.int .i64 (a % b)) := by
  refine q_cast (q_remW ex ey (by omega)) ?_
  rw [Int.tmod_eq_emod_of_nonneg ha]
end i64

theorem q_neg {a : Int} (ex : L x = some (.int .i64 a)) (h : I64 (0 - a)) : Q1 P L (.unOp .neg t x) C (.int .i64 (0 - a)) :=
  fun ρ hρ w' _ dst ty pos af g => by simp [execOp, hρ x _ ex, Op.unary, Op.intArith]; exact wrap64_eq (by simpa using h)

section bits
variable {k : IntKind} {a b : Int} (ex : L x = some (.int k a)) (ey : L y = some (.int k b))
include ex ey
theorem q_and : Q1 P L (.binOp .and t x y t') C (.int k (k.wrap ((BitVec.ofInt k.bits a &&& BitVec.ofInt k.bits b).toNat : Int))) := fun ρ h w' _ dst ty pos af g => by simp [execOp, h x _ ex, h y _ ey, guard_int, binOp, Op.intBits]
theorem q_or : Q1 P L (.binOp .or t x y t') C (.int k (k.wrap ((BitVec.ofInt k.bits a ||| BitVec.ofInt k.bits b).toNat : Int))) := fun ρ h w' _ dst ty pos af g => by simp [execOp, h x _ ex, h y _ ey, guard_int, binOp, Op.intBits]
theorem q_xor : Q1 P L (.binOp .xor t x y t') C (.int k (k.wrap ((BitVec.ofInt k.bits a ^^^ BitVec.ofInt k.bits b).toNat : Int))) := fun ρ h w' _ dst ty pos af g => by simp [execOp, h x _ ex, h y _ ey, guard_int, binOp, Op.intBits]
end bits
theorem q_shl {k k' : IntKind} {a b : Int} (ex : L x = some (.int k a)) (ey : L y = some (.int k' b)) (hb : 0 ≤ b) : Q1 P L (.binOp .shl t x y t') C (.int k (k.wrap (a * 2 ^ (min b.toNat k.bits)))) :=
  fun ρ h w' _ dst ty pos af g => by simp [execOp, h x _ ex, h y _ ey, guard_int, binOp, Op.shift, show ¬ b < 0 by omega]
theorem q_shr {k k' : IntKind} {a b : Int} (ex : L x = some (.int k a)) (ey : L y = some (.int k' b)) (hb : 0 ≤ b) : Q1 P L (.binOp .shr t x y t') C (.int k (a.fdiv (2 ^ (min b.toNat k.bits)))) :=
  fun ρ h w' _ dst ty pos af g => by simp [execOp, h x _ ex, h y _ ey, guard_int, binOp, Op.shift, show ¬ b < 0 by omega]

/-! '==' that goes by the type -/
def byType : Value → Bool
  | .bool _ | .pointer _ | .slice .. | .map _ | .func .. | .nilFunc | .nilIface | .iface .. | .agg _ => true
  | _ => false
def guardless : Value → Value → Bool
  | .nilIface, .nilIface => false
  | .agg _, .agg _ => false
  | _, _ => true
theorem run_eql_of {t : TypeId} {u v : Value} {r : Bool} {w : World} (hu : byType u = true) (h : ∀ d : Nat, (Op.equalIn (d + 1) t u v).run P w = .ok r w) : (binOp .eql t u v).run P w = .ok (.bool r) w := by
  have h' : (Op.equal t u v).run P w = .ok r w := h 9999
  cases u <;> simp only [byType, Bool.false_eq_true] at hu <;> (simp only [binOp]; rw [Sem.run_bind, h']; simp)
theorem run_neq_of {t : TypeId} {u v : Value} {r : Bool} {w : World} (hu : byType u = true) (h : ∀ d : Nat, (Op.equalIn (d + 1) t u v).run P w = .ok r w) : (binOp .neq t u v).run P w = .ok (.bool (!r)) w := by
  have h' : (Op.equal t u v).run P w = .ok r w := h 9999
  cases u <;> simp only [byType, Bool.false_eq_true] at hu <;> (simp only [binOp]; rw [Sem.run_bind, h']; simp)
theorem run_guardless {op : BinOp} {t : TypeId} {x y : Operand} {u v : Value} {w : World} (h : guardless u v = true) : (eqGuard op t x y u v).run P w = .ok () w := by
  cases op <;> first | (simp [eqGuard]; done) | (cases u <;> first | (simp [eqGuard]; done) | (cases v <;> first | (simp [eqGuard]; done) | (simp [guardless] at h)))
theorem q_eqlOf {u v : Value} {r : Bool} (ex : L x = some u) (ey : L y = some v) (hu : byType u = true) (hg : guardless u v = true) (h : ∀ (d : Nat) (w : World), (Op.equalIn (d + 1) t u v).run P w = .ok r w) : Q1 P L (.binOp .eql t x y t') C (.bool r) :=
  fun ρ h' w' _ dst ty pos af g => by
    simp only [execOp, h' x _ ex, h' y _ ey]
    rw [Sem.run_bind, Sem.run_bind, run_guardless hg]
    simp [run_eql_of hu (fun d => h d w')]
theorem q_neqOf {u v : Value} {r : Bool} (ex : L x = some u) (ey : L y = some v) (hu : byType u = true) (hg : guardless u v = true) (h : ∀ (d : Nat) (w : World), (Op.equalIn (d + 1) t u v).run P w = .ok r w) : Q1 P L (.binOp .neq t x y t') C (.bool (!r)) :=
  fun ρ h' w' _ dst ty pos af g => by
    simp only [execOp, h' x _ ex, h' y _ ey]
    rw [Sem.run_bind, Sem.run_bind, run_guardless hg]
    simp [run_neq_of hu (fun d => h d w')]

/-! bools -/
def kindB (P : Program) (t : TypeId) : Option TypeDesc := P.underlying t
theorem q_eqlB {a b : Bool} (ht : P.underlying t = some .bool) (ex : L x = some (.bool a)) (ey : L y = some (.bool b)) : Q1 P L (.binOp .eql t x y t') C (.bool (a == b)) :=
  q_eqlOf ex ey rfl rfl fun d w => by simp [Op.equalIn, run_underlying ht]
theorem q_neqB {a b : Bool} (ht : P.underlying t = some .bool) (ex : L x = some (.bool a)) (ey : L y = some (.bool b)) : Q1 P L (.binOp .neq t x y t') C (.bool (!(a == b))) :=
  q_neqOf ex ey rfl rfl fun d w => by simp [Op.equalIn, run_underlying ht]
/-! strings -/
theorem bytes_ext {s u : ByteArray} (h : s.toList = u.toList) : s = u := by
  rw [ByteArray.toList_eq, ByteArray.toList_eq] at h
  obtain ⟨⟨a⟩⟩ := s; obtain ⟨⟨b⟩⟩ := u
  simp only at h
  rw [h]
theorem beq_bytes (s u : ByteArray) : (s.toList == u.toList) = decide (s = u) := by
  by_cases h : s = u
  · subst h; simp
  · rw [decide_eq_false h]
    cases hq : (s.toList == u.toList) with
    | false => rfl
    | true => exact absurd (bytes_ext (eq_of_beq hq)) h
theorem q_eqlS {s u : ByteArray} (ex : L x = some (.string s)) (ey : L y = some (.string u)) : Q1 P L (.binOp .eql t x y t') C (.bool (decide (s = u))) :=
  fun ρ h w' _ dst ty pos af g => by simp only [execOp, h x _ ex, h y _ ey]; simp [eqGuard, binOp, Op.stringOp, beq_bytes]
theorem q_neqS {s u : ByteArray} (ex : L x = some (.string s)) (ey : L y = some (.string u)) : Q1 P L (.binOp .neq t x y t') C (.bool (!decide (s = u))) :=
  fun ρ h w' _ dst ty pos af g => by simp only [execOp, h x _ ex, h y _ ey]; simp [eqGuard, binOp, Op.stringOp, beq_bytes]
theorem q_cat {s u : ByteArray} (ex : L x = some (.string s)) (ey : L y = some (.string u)) (hm : s.size + u.size ≤ 9223372036854775807) : Q1 P L (.binOp .add t x y t') C (.string (s ++ u)) :=
  fun ρ h w' _ dst ty pos af g => by
    have hle : ¬ (((s.size + u.size : Nat) : Int) > IntKind.i64.max) := by
      have : IntKind.i64.max = 9223372036854775807 := by decide
      omega
    simp only [execOp, h x _ ex, h y _ ey]
    have hle' : ¬ ((s.size : Int) + (u.size : Int) > 9223372036854775807) := by omega
    simp [eqGuard, binOp, Op.stringOp]
    omega

/-! slices -/
theorem q_lenSl {T : TypeId} {e : TypeId} {A : Option Addr} {n c : Nat} (ht : P.underlying T = some (.slice e)) (ex : L x = some (.slice A n c)) :
    Q1 P L (.call { callee := .builtin .len, args := #[x], argTypes := #[T] }) C (.int .i64 n) :=
  fun ρ h w' _ dst ty pos af g => by simp [execOp, resolve, invoke, builtin, h x _ ex, Builtin.len_, run_underlying ht, goInt]
theorem q_lenS {T : TypeId} {s : ByteArray} (ht : P.underlying T = some .string) (ex : L x = some (.string s)) :
    Q1 P L (.call { callee := .builtin .len, args := #[x], argTypes := #[T] }) C (.int .i64 s.size) :=
  fun ρ h w' _ dst ty pos af g => by simp [execOp, resolve, invoke, builtin, h x _ ex, Builtin.len_, run_underlying ht, goInt]
theorem q_nilSl {T e : TypeId} {A : Option Addr} {n c n' c' : Nat} (ht : P.underlying T = some (.slice e)) (ex : L x = some (.slice A n c)) (ey : L y = some (.slice none n' c')) :
    Q1 P L (.binOp .eql T x y t') C (.bool A.isNone) :=
  q_eqlOf ex ey rfl rfl fun d w => by cases A <;> simp [Op.equalIn, run_underlying ht]
theorem q_nnilSl {T e : TypeId} {A : Option Addr} {n c n' c' : Nat} (ht : P.underlying T = some (.slice e)) (ex : L x = some (.slice A n c)) (ey : L y = some (.slice none n' c')) :
    Q1 P L (.binOp .neq T x y t') C (.bool (!A.isNone)) :=
  q_neqOf ex ey rfl rfl fun d w => by cases A <;> simp [Op.equalIn, run_underlying ht]
theorem q_indexAddr {T e k : Nat} {ad : Addr} {n c : Nat} {q : IntKind} {i : Int} (ht : P.underlying T = some (.slice e)) (hk : sizeB P e = some k) (ex : L x = some (.slice (some ad) n c)) (ey : L y = some (.int q i)) (h0 : 0 ≤ i) (hn : i < n) :
    Q1 P L (.indexAddr T x y) C (.pointer (some (ad.add (i.toNat * k)))) :=
  fun ρ h w' _ dst ty pos af g => by simp [execOp, h x _ ex, h y _ ey, Instr.indexAt, asIntOf, run_underlying ht, h0, hn, run_sizeOf hk]
theorem q_indexS {T : TypeId} {s : ByteArray} {q : IntKind} {i : Int} (ht : P.underlying T = some .string) (ex : L x = some (.string s)) (ey : L y = some (.int q i)) (h0 : 0 ≤ i) (hn : i.toNat < s.size) :
    Q1 P L (.index T x y) C (.int .u8 ((s[i.toNat]'hn).toNat : Int)) :=
  fun ρ h w' _ dst ty pos af g => by
    have : s[i.toNat]? = some (s[i.toNat]'hn) := by simp [getElem?_pos, hn]
    simp [execOp, h x _ ex, h y _ ey, Instr.index, asIntOf, run_underlying ht, h0, this]
/-- xs[lo:hi] of a slice. -/
theorem q_slice {T e k : Nat} {A : Option Addr} {n c : Nat} {q1 q2 : IntKind} {lo hi : Int} (ht : P.underlying T = some (.slice e)) (hk : sizeB P e = some k) (ex : L x = some (.slice A n c)) (ey : L y = some (.int q1 lo)) (ez : L z = some (.int q2 hi))
    (h0 : 0 ≤ lo) (h1 : lo ≤ hi) (h2 : hi ≤ c) :
    Q1 P L (.slice T x (some y) (some z) none) C (.slice (if c = lo.toNat then A else A.map (·.add (lo.toNat * k))) (hi.toNat - lo.toNat) (c - lo.toNat)) :=
  fun ρ h w' _ dst ty pos af g => by
    have e1 : 0 ≤ hi ∧ hi ≤ (c : Int) := ⟨by omega, h2⟩
    have e2 : 0 ≤ lo ∧ lo ≤ (hi.toNat : Int) := ⟨h0, by omega⟩
    simp only [execOp, h x _ ex, h y _ ey, h z _ ez, Option.map_some, Option.map_none]
    simp [Instr.sliceAt, Instr.slice, run_underlying ht, Instr.sliceBounds, Instr.sliceBound, asIntOf, e1, e2, run_sizeOf hk]
    intro hc; exact absurd hc (by omega)
/-- xs[:hi] -/
theorem q_sliceTo {T e k : Nat} {A : Option Addr} {n c : Nat} {q2 : IntKind} {hi : Int} (ht : P.underlying T = some (.slice e)) (hk : sizeB P e = some k) (ex : L x = some (.slice A n c)) (ez : L z = some (.int q2 hi))
    (h1 : 0 ≤ hi) (h2 : hi ≤ c) :
    Q1 P L (.slice T x none (some z) none) C (.slice A hi.toNat c) :=
  fun ρ h w' _ dst ty pos af g => by
    have e1 : 0 ≤ hi ∧ hi ≤ (c : Int) := ⟨by omega, h2⟩
    have e3 : A.map (·.add (0 * k)) = A := by cases A <;> simp [Addr.add]
    simp only [execOp, h x _ ex, h z _ ez, Option.map_some, Option.map_none]
    simp [Instr.sliceAt, Instr.slice, run_underlying ht, Instr.sliceBounds, Instr.sliceBound, asIntOf, e1, run_sizeOf hk]
    intro _
    simpa using e3
/-- xs[:hi:most] -/
theorem q_slice3 {T e k : Nat} {A : Option Addr} {n c : Nat} {q2 q3 : IntKind} {z3 : Operand} {hi mx : Int} (ht : P.underlying T = some (.slice e)) (hk : sizeB P e = some k) (ex : L x = some (.slice A n c)) (ez : L z = some (.int q2 hi)) (e3 : L z3 = some (.int q3 mx))
    (h1 : 0 ≤ hi) (h2 : hi ≤ mx) (h3 : mx ≤ c) :
    Q1 P L (.slice T x none (some z) (some z3)) C (.slice A hi.toNat mx.toNat) :=
  fun ρ h w' _ dst ty pos af g => by
    have e1 : 0 ≤ mx ∧ mx ≤ (c : Int) := ⟨by omega, h3⟩
    have e2 : 0 ≤ hi ∧ hi ≤ (mx.toNat : Int) := ⟨h1, by omega⟩
    have e4 : A.map (·.add (0 * k)) = A := by cases A <;> simp [Addr.add]
    simp only [execOp, h x _ ex, h z _ ez, h z3 _ e3, Option.map_some, Option.map_none]
    simp [Instr.sliceAt, Instr.slice, run_underlying ht, Instr.sliceBounds, Instr.sliceBound, asIntOf, e1, e2, run_sizeOf hk]
    have e5 : A.map (·.add 0) = A := by simpa using e4
    rw [if_pos (by omega)]
    simp only [e5, ite_self]
/-- xs[lo:] -/
theorem q_sliceFrom {T e k : Nat} {A : Option Addr} {n c : Nat} {q1 : IntKind} {lo : Int} (ht : P.underlying T = some (.slice e)) (hk : sizeB P e = some k) (ex : L x = some (.slice A n c)) (ey : L y = some (.int q1 lo))
    (h0 : 0 ≤ lo) (h1 : lo ≤ n) :
    Q1 P L (.slice T x (some y) none none) C (.slice (if c = lo.toNat then A else A.map (·.add (lo.toNat * k))) (n - lo.toNat) (c - lo.toNat)) :=
  fun ρ h w' _ dst ty pos af g => by
    have e2 : 0 ≤ lo ∧ lo ≤ (n : Int) := ⟨h0, h1⟩
    simp only [execOp, h x _ ex, h y _ ey, Option.map_some, Option.map_none]
    simp [Instr.sliceAt, Instr.slice, run_underlying ht, Instr.sliceBounds, Instr.sliceBound, asIntOf, e2, run_sizeOf hk]
/-- s[lo:hi], s[lo:], s[:hi] of a string -/
theorem q_sliceS {T : TypeId} {s : ByteArray} {q1 q2 : IntKind} {lo hi : Int} (ht : P.underlying T = some .string) (ex : L x = some (.string s)) (ey : L y = some (.int q1 lo)) (ez : L z = some (.int q2 hi))
    (h0 : 0 ≤ lo) (h1 : lo ≤ hi) (h2 : hi ≤ s.size) : Q1 P L (.slice T x (some y) (some z) none) C (.string (s.extract lo.toNat hi.toNat)) :=
  fun ρ h w' _ dst ty pos af g => by
    have e1 : 0 ≤ hi ∧ hi ≤ (s.size : Int) := ⟨by omega, h2⟩
    have e2 : 0 ≤ lo ∧ lo ≤ (hi.toNat : Int) := ⟨h0, by omega⟩
    simp only [execOp, h x _ ex, h y _ ey, h z _ ez, Option.map_some, Option.map_none]
    simp [Instr.sliceAt, Instr.slice, run_underlying ht, Instr.sliceBounds, Instr.sliceBound, asIntOf, e1, e2]
    intro hc; exact absurd hc (by omega)

/-! nil, interfaces, functions -/
theorem q_nilP {T e : TypeId} {A : Option Addr} (ht : P.underlying T = some (.pointer e)) (ex : L x = some (.pointer A)) (ey : L y = some (.pointer none)) : Q1 P L (.binOp .eql T x y t') C (.bool A.isNone) :=
  q_eqlOf ex ey rfl rfl fun d w => by cases A <;> simp [Op.equalIn, run_underlying ht]
theorem q_nnilP {T e : TypeId} {A : Option Addr} (ht : P.underlying T = some (.pointer e)) (ex : L x = some (.pointer A)) (ey : L y = some (.pointer none)) : Q1 P L (.binOp .neq T x y t') C (.bool (!A.isNone)) :=
  q_neqOf ex ey rfl rfl fun d w => by cases A <;> simp [Op.equalIn, run_underlying ht]
theorem q_nilM {T k e : TypeId} {A : Option Nat} (ht : P.underlying T = some (.map k e)) (ex : L x = some (.map A)) (ey : L y = some (.map none)) : Q1 P L (.binOp .eql T x y t') C (.bool A.isNone) :=
  q_eqlOf ex ey rfl rfl fun d w => by cases A <;> simp [Op.equalIn, run_underlying ht]
theorem q_nnilM {T k e : TypeId} {A : Option Nat} (ht : P.underlying T = some (.map k e)) (ex : L x = some (.map A)) (ey : L y = some (.map none)) : Q1 P L (.binOp .neq T x y t') C (.bool (!A.isNone)) :=
  q_neqOf ex ey rfl rfl fun d w => by cases A <;> simp [Op.equalIn, run_underlying ht]
def isNilF : Value → Bool
  | .nilFunc => true
  | _ => false
theorem q_nilF {T : TypeId} {ps rs : Array TypeId} {vr : Bool} {v : Value} (ht : P.underlying T = some (.func ps rs vr)) (ex : L x = some v) (ey : L y = some .nilFunc) (hv : v = .nilFunc ∨ ∃ f a b, v = .func f a b) : Q1 P L (.binOp .eql T x y t') C (.bool (isNilF v)) := by
  rcases hv with rfl | ⟨f, a, b, rfl⟩
  · exact q_eqlOf ex ey rfl rfl fun d w => by simp [Op.equalIn, run_underlying ht, isNilF]
  · exact q_eqlOf ex ey rfl rfl fun d w => by simp [Op.equalIn, run_underlying ht, isNilF]
theorem q_nnilF {T : TypeId} {ps rs : Array TypeId} {vr : Bool} {v : Value} (ht : P.underlying T = some (.func ps rs vr)) (ex : L x = some v) (ey : L y = some .nilFunc) (hv : v = .nilFunc ∨ ∃ f a b, v = .func f a b) : Q1 P L (.binOp .neq T x y t') C (.bool (!isNilF v)) := by
  rcases hv with rfl | ⟨f, a, b, rfl⟩
  · exact q_neqOf ex ey rfl rfl fun d w => by simp [Op.equalIn, run_underlying ht, isNilF]
  · exact q_neqOf ex ey rfl rfl fun d w => by simp [Op.equalIn, run_underlying ht, isNilF]
def isNilI : Value → Bool
  | .nilIface => true
  | _ => false
theorem q_nilI {T : TypeId} {ms : Array (String × TypeId)} {v : Value} (ht : P.underlying T = some (.interface ms)) (ex : L x = some v) (ey : L (.const .nilIface) = some .nilIface) (hv : v = .nilIface ∨ ∃ u x, v = .iface u x) : Q1 P L (.binOp .eql T x (.const .nilIface) t') C (.bool (isNilI v)) := by
  rcases hv with rfl | ⟨u, q, rfl⟩
  · intro ρ h w' hw dst ty pos af g
    have h' : ∀ d : Nat, (Op.equalIn (d + 1) T .nilIface .nilIface).run P w' = .ok true w' := fun d => by simp [Op.equalIn, run_underlying ht]
    simp only [execOp, h x _ ex, h _ _ ey]
    rw [Sem.run_bind, Sem.run_bind]
    have hg : (eqGuard .eql T x (.const .nilIface) .nilIface .nilIface).run P w' = .ok () w' := by simp [eqGuard]
    rw [hg]
    simp [run_eql_of (u := .nilIface) rfl h', isNilI]
  · exact q_eqlOf ex ey rfl rfl fun d w => by simp [Op.equalIn, run_underlying ht, isNilI]
theorem q_nnilI {T : TypeId} {ms : Array (String × TypeId)} {v : Value} (ht : P.underlying T = some (.interface ms)) (ex : L x = some v) (ey : L (.const .nilIface) = some .nilIface) (hv : v = .nilIface ∨ ∃ u x, v = .iface u x) : Q1 P L (.binOp .neq T x (.const .nilIface) t') C (.bool (!isNilI v)) := by
  rcases hv with rfl | ⟨u, q, rfl⟩
  · intro ρ h w' hw dst ty pos af g
    have h' : ∀ d : Nat, (Op.equalIn (d + 1) T .nilIface .nilIface).run P w' = .ok true w' := fun d => by simp [Op.equalIn, run_underlying ht]
    simp only [execOp, h x _ ex, h _ _ ey]
    rw [Sem.run_bind, Sem.run_bind]
    have hg : (eqGuard .neq T x (.const .nilIface) .nilIface .nilIface).run P w' = .ok () w' := by simp [eqGuard]
    rw [hg]
    simp [run_neq_of (u := .nilIface) rfl h', isNilI]
  · exact q_neqOf ex ey rfl rfl fun d w => by simp [Op.equalIn, run_underlying ht, isNilI]
theorem q_makeFunc {fn : Fn} {first cap : Array Operand} {f c : List Value} (hf : first.toList.map L = f.map some) (hc : cap.toList.map L = c.map some) : Q1 P L (.makeFunc fn first cap) C (.func fn f.toArray c.toArray) :=
  fun ρ h w' _ dst ty pos af g => by
    have key : ∀ (xs : List Operand) (vs : List Value), xs.map L = vs.map some → xs.map ρ = vs := by
      intro xs
      induction xs with
      | nil => intro vs e; cases vs with | nil => rfl | cons v vs => simp at e
      | cons x xs ih =>
        intro vs e
        cases vs with
        | nil => simp at e
        | cons v vs =>
          simp only [List.map_cons, List.cons.injEq] at e
          simp [h x v e.1, ih vs e.2]
    have e1 : first.map ρ = f.toArray := by apply Array.ext'; simp [key _ _ hf]
    have e2 : cap.map ρ = c.toArray := by apply Array.ext'; simp [key _ _ hc]
    simp [execOp, Instr.makeFunc, e1, e2]
theorem q_makeInterface {T : TypeId} {v : Value} {dsc : TypeDesc} (ht : P.underlying T = some dsc) (hd : ∀ ms, dsc ≠ .interface ms) (ex : L x = some v) : Q1 P L (.makeInterface T x) C (.iface T v) :=
  fun ρ h w' _ dst ty pos af g => by
    simp only [execOp, h x _ ex]
    cases dsc <;> simp [Instr.makeInterface, run_underlying ht]
    exact absurd rfl (hd _)

/-! conversions of integers -/
theorem q_convI {src T : TypeId} {k k' : IntKind} {a : Int} {dsc : TypeDesc} (hs : P.underlying src = some dsc) (ht : P.underlying T = some (.int k')) (hd : ∃ q, dsc = .int q) (ex : L x = some (.int k a)) : Q1 P L (.convert src T x) C (.int k' (k'.wrap a)) :=
  fun ρ h w' _ dst ty pos af g => by
    obtain ⟨q, rfl⟩ := hd
    simp [execOp, h x _ ex, convert, run_underlying hs, run_underlying ht, Conv.intToInt]

/-! values of structs -/
theorem q_field {T : TypeId} {fs : Array Field} {k : Nat} {f : Field} {cs : Array Value} {v : Value} (ht : P.underlying T = some (.struct fs)) (hf : fs[k]? = some f) (ha : aggB P f.type = some false) (hv : cs[f.offset]? = some v) (ex : L x = some (.agg cs)) :
    Q1 P L (.field T x k) C v :=
  fun ρ h w' _ dst ty pos af g => by
    simp [execOp, h x _ ex, Instr.field, run_underlying ht, hf, asAgg, part, run_isAgg ha, hv]
end
end Go.Proofs.YtnhjohcgnmogaaaDoor
