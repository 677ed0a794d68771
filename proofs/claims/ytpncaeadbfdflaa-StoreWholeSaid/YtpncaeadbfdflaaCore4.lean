/- The operations, one law each: what hangs on no world. Conditions: none. -/
import Derived.Test.YtpncaeadbfdflaaCore3
set_option linter.unusedSimpArgs false
set_option linter.unusedVariables false
namespace Go.Q
open Go.RowKit

/-- A type's row of the table. -/
structure Ty (P : Program) (t : TypeId) (d : TypeDesc) (z : Value) (sz bs : Nat) : Prop where
  u : P.underlying t = some d
  i : ∃ i, P.info? t = some i ∧ i.zero = some z ∧ i.size = sz ∧ i.bytes = bs
theorem ty_mk {P : Program} {t : TypeId} {d : TypeDesc} {z : Value} {sz bs : Nat} (h : P.underlying t = some d) (h2 : (P.info? t).map (fun i => (i.zero, i.size, i.bytes)) = some (some z, sz, bs)) : Ty P t d z sz bs := by
  refine ⟨h, ?_⟩
  cases hi : P.info? t with
  | none => simp [hi] at h2
  | some i =>
    simp only [hi, Option.map_some, Option.some.injEq, Prod.mk.injEq] at h2
    exact ⟨i, rfl, h2.1, h2.2.1, h2.2.2⟩
/-- .. its size alone. -/
structure Sz (P : Program) (t : TypeId) (d : TypeDesc) (sz : Nat) : Prop where
  u : P.underlying t = some d
  i : ∃ i, P.info? t = some i ∧ i.size = sz
theorem Ty.s {P : Program} {t : TypeId} {d : TypeDesc} {z : Value} {sz bs : Nat} (h : Ty P t d z sz bs) : Sz P t d sz := ⟨h.u, let ⟨i, a, _, b, _⟩ := h.i; ⟨i, a, b⟩⟩
theorem sz_mk {P : Program} {t : TypeId} {d : TypeDesc} {sz : Nat} (h : P.underlying t = some d) (h2 : (P.info? t).map (fun i => i.size) = some sz) : Sz P t d sz := by
  refine ⟨h, ?_⟩
  cases hi : P.info? t with
  | none => simp [hi] at h2
  | some i =>
    simp only [hi, Option.map_some, Option.some.injEq] at h2
    exact ⟨i, rfl, h2⟩
def flat : TypeDesc → Bool
  | .struct _ | .array _ _ => false
  | _ => true

section
variable {P : Program} {f : Nat → Value} {w w' : World} {d : Option Tmp} {t : TypeId} {pos : String} {aft : Array Edge} {g : Option (Nat × Bool)} {x y z : Operand} {v u : Value} {k k' : IntKind} {a b r : Int} {p q : Bool} {t1 t2 : TypeId}

theorem underlying_run {d : TypeDesc} (h : P.underlying t = some d) (w : World) : (underlying t).run P w = .ok d w := run_underlying h w
theorem sizeOf_run {d : TypeDesc} {sz : Nat} (h : Sz P t d sz) (w : World) : (sizeOf t).run P w = .ok sz w := by
  obtain ⟨_, i, hi, rfl⟩ := h
  simp [sizeOf, typeInfo, hi]
theorem isAgg_flat {d : TypeDesc} (h : P.underlying t = some d) (hd : flat d = true) (w : World) : (isAgg t).run P w = .ok false w := by
  simp only [isAgg, Sem.run_bind, underlying_run h, Result.andThen_ok]
  cases d <;> simp [flat] at hd ⊢ <;> rfl
theorem isAgg_not {d : TypeDesc} (h : P.underlying t = some d) (hd : flat d = false) (w : World) : (isAgg t).run P w = .ok true w := by
  simp only [isAgg, Sem.run_bind, underlying_run h, Result.andThen_ok]
  cases d <;> simp [flat] at hd ⊢ <;> rfl

/-! ### moves -/
theorem pr_move (h : op f x = v) : PR P f ⟨d, .move x, t, pos, aft, g⟩ v := fun w => by rw [← h]; rfl
theorem pr_assign (h : op f x = v) : PR P f ⟨d, .assign x, t, pos, aft, g⟩ v := fun w => by rw [← h]; rfl
theorem pr_pickT (hc : op f z = .bool p) (hp : p = true) (h : op f x = v) : PR P f ⟨d, .pick z x y, t, pos, aft, g⟩ v := fun w => by
  subst hp
  simp [execOp, hc, asBool, h]
theorem pr_pickF (hc : op f z = .bool p) (hp : p = false) (h : op f y = v) : PR P f ⟨d, .pick z x y, t, pos, aft, g⟩ v := fun w => by
  subst hp
  simp [execOp, hc, asBool, h]
theorem pr_extract {vs : Array Value} {i : Nat} (h : op f x = .tuple vs) (hi : vs[i]? = some v) : PR P f ⟨d, .extract x i, t, pos, aft, g⟩ v := fun w => by
  simp [execOp, h, Instr.extract, hi]
theorem pr_not (h : op f x = .bool p) : PR P f ⟨d, .unOp .not t1 x, t, pos, aft, g⟩ (.bool (!p)) := fun w => by
  simp [execOp, h, Op.unary]
theorem pr_nil {ad : Addr} (h : op f x = .pointer (some ad)) : PR P f ⟨d, .nilCheck x, t, pos, aft, g⟩ (.pointer (some ad)) := fun w => by
  simp [execOp, h]

/-! ### whole numbers -/
theorem pr_add (hx : op f x = .int k a) (hy : op f y = .int k b) (hr : k.wrap (a + b) = r) : PR P f ⟨d, .binOp .add t1 x y t2, t, pos, aft, g⟩ (.int k r) := fun w => by
  simp [execOp, eqGuard, hx, hy, binOp, Op.intArith, hr]
theorem pr_sub (hx : op f x = .int k a) (hy : op f y = .int k b) (hr : k.wrap (a - b) = r) : PR P f ⟨d, .binOp .sub t1 x y t2, t, pos, aft, g⟩ (.int k r) := fun w => by
  simp [execOp, eqGuard, hx, hy, binOp, Op.intArith, hr]
theorem pr_mul (hx : op f x = .int k a) (hy : op f y = .int k b) (hr : k.wrap (a * b) = r) : PR P f ⟨d, .binOp .mul t1 x y t2, t, pos, aft, g⟩ (.int k r) := fun w => by
  simp [execOp, eqGuard, hx, hy, binOp, Op.intArith, hr]
theorem pr_quo (hx : op f x = .int k a) (hy : op f y = .int k b) (hb : b ≠ 0) (hr : k.wrap (a.tdiv b) = r) : PR P f ⟨d, .binOp .quo t1 x y t2, t, pos, aft, g⟩ (.int k r) := fun w => by
  simp [execOp, eqGuard, hx, hy, binOp, Op.intDiv, hb, hr]
theorem pr_rem (hx : op f x = .int k a) (hy : op f y = .int k b) (hb : b ≠ 0) (hr : a.tmod b = r) : PR P f ⟨d, .binOp .rem t1 x y t2, t, pos, aft, g⟩ (.int k r) := fun w => by
  simp [execOp, eqGuard, hx, hy, binOp, Op.intDiv, hb, hr]
theorem pr_lss (hx : op f x = .int k a) (hy : op f y = .int k b) : PR P f ⟨d, .binOp .lss t1 x y t2, t, pos, aft, g⟩ (.bool (decide (a < b))) := fun w => by
  simp [execOp, eqGuard, hx, hy, binOp, Op.intCmp]
theorem pr_leq (hx : op f x = .int k a) (hy : op f y = .int k b) : PR P f ⟨d, .binOp .leq t1 x y t2, t, pos, aft, g⟩ (.bool (decide (a ≤ b))) := fun w => by
  simp [execOp, eqGuard, hx, hy, binOp, Op.intCmp]
theorem pr_gtr (hx : op f x = .int k a) (hy : op f y = .int k b) : PR P f ⟨d, .binOp .gtr t1 x y t2, t, pos, aft, g⟩ (.bool (decide (b < a))) := fun w => by
  simp [execOp, eqGuard, hx, hy, binOp, Op.intCmp]
theorem pr_geq (hx : op f x = .int k a) (hy : op f y = .int k b) : PR P f ⟨d, .binOp .geq t1 x y t2, t, pos, aft, g⟩ (.bool (decide (b ≤ a))) := fun w => by
  simp [execOp, eqGuard, hx, hy, binOp, Op.intCmp]
theorem pr_eql (hx : op f x = .int k a) (hy : op f y = .int k b) : PR P f ⟨d, .binOp .eql t1 x y t2, t, pos, aft, g⟩ (.bool (decide (a = b))) := fun w => by
  simp [execOp, eqGuard, hx, hy, binOp, Op.intCmp]
  rfl
theorem pr_neq (hx : op f x = .int k a) (hy : op f y = .int k b) : PR P f ⟨d, .binOp .neq t1 x y t2, t, pos, aft, g⟩ (.bool (!decide (a = b))) := fun w => by
  simp [execOp, eqGuard, hx, hy, binOp, Op.intCmp]
  rfl
theorem equal_bool {p' : Bool} (ht : P.underlying t1 = some .bool) (w : World) : (Op.equal t1 (.bool p) (.bool p')).run P w = .ok (p == p') w := by
  have h : ∀ d : Nat, (Op.equalIn (d + 1) t1 (.bool p) (.bool p')).run P w = .ok (p == p') w := fun d => by simp [Op.equalIn, underlying_run ht]
  exact h 9999
theorem pr_beql {p' : Bool} (ht : P.underlying t1 = some .bool) (hx : op f x = .bool p) (hy : op f y = .bool p') : PR P f ⟨d, .binOp .eql t1 x y t2, t, pos, aft, g⟩ (.bool (p == p')) := fun w => by
  have e : binOp .eql t1 (.bool p) (.bool p') = (do pure (.bool (← Op.equal t1 (.bool p) (.bool p')))) := rfl
  simp only [execOp, eqGuard, hx, hy, e, Sem.run_bind, equal_bool ht, Result.andThen_ok]
  rfl
theorem pr_bneq {p' : Bool} (ht : P.underlying t1 = some .bool) (hx : op f x = .bool p) (hy : op f y = .bool p') : PR P f ⟨d, .binOp .neq t1 x y t2, t, pos, aft, g⟩ (.bool (!(p == p'))) := fun w => by
  have e : binOp .neq t1 (.bool p) (.bool p') = (do pure (.bool (!(← Op.equal t1 (.bool p) (.bool p'))))) := rfl
  simp only [execOp, eqGuard, hx, hy, e, Sem.run_bind, equal_bool ht, Result.andThen_ok]
  rfl
theorem pr_shl (hx : op f x = .int k a) (hy : op f y = .int k' b) (hb : 0 ≤ b) (hr : k.wrap (a * 2 ^ (min b.toNat k.bits)) = r) : PR P f ⟨d, .binOp .shl t1 x y t2, t, pos, aft, g⟩ (.int k r) := fun w => by
  have : ¬ b < 0 := by omega
  simp [execOp, eqGuard, hx, hy, binOp, Op.shift, this, hr]
theorem pr_shr (hx : op f x = .int k a) (hy : op f y = .int k' b) (hb : 0 ≤ b) (hr : a.fdiv (2 ^ (min b.toNat k.bits)) = r) : PR P f ⟨d, .binOp .shr t1 x y t2, t, pos, aft, g⟩ (.int k r) := fun w => by
  have : ¬ b < 0 := by omega
  simp [execOp, eqGuard, hx, hy, binOp, Op.shift, this, hr]
theorem pr_and (hx : op f x = .int k a) (hy : op f y = .int k b) (hr : k.wrap ((BitVec.ofInt k.bits a &&& BitVec.ofInt k.bits b).toNat : Int) = r) : PR P f ⟨d, .binOp .and t1 x y t2, t, pos, aft, g⟩ (.int k r) := fun w => by
  simp [execOp, eqGuard, hx, hy, binOp, Op.intBits]
  simpa using hr
theorem pr_or (hx : op f x = .int k a) (hy : op f y = .int k b) (hr : k.wrap ((BitVec.ofInt k.bits a ||| BitVec.ofInt k.bits b).toNat : Int) = r) : PR P f ⟨d, .binOp .or t1 x y t2, t, pos, aft, g⟩ (.int k r) := fun w => by
  simp [execOp, eqGuard, hx, hy, binOp, Op.intBits]
  simpa using hr
theorem pr_xor (hx : op f x = .int k a) (hy : op f y = .int k b) (hr : k.wrap ((BitVec.ofInt k.bits a ^^^ BitVec.ofInt k.bits b).toNat : Int) = r) : PR P f ⟨d, .binOp .xor t1 x y t2, t, pos, aft, g⟩ (.int k r) := fun w => by
  simp [execOp, eqGuard, hx, hy, binOp, Op.intBits]
  simpa using hr
theorem pr_inv (hx : op f x = .int k a) (hr : k.wrap ((BitVec.ofInt k.bits (if k.signed then -1 else k.max) ^^^ BitVec.ofInt k.bits a).toNat : Int) = r) : PR P f ⟨d, .unOp .xor t1 x, t, pos, aft, g⟩ (.int k r) := fun w => by
  simp [execOp, hx, Op.unary, Op.intBits]
  simpa using hr
theorem pr_conv {ds : TypeDesc} {t3 : TypeId} (hs : P.underlying t3 = some ds) (hd : P.underlying t1 = some (.int k')) (hx : op f x = .int k a) (hr : k'.wrap a = r) : PR P f ⟨d, .convert t3 t1 x, t, pos, aft, g⟩ (.int k' r) := fun w => by
  simp [execOp, hx, convert, underlying_run hs, underlying_run hd, Conv.intToInt, hr]
theorem pr_min2 {ts : Array TypeId} (hx : op f x = .int k a) (hy : op f y = .int k b) (hr : min a b = r) : PR P f ⟨d, .call ⟨.builtin .min, #[x, y], ts⟩, t, pos, aft, g⟩ (.int k r) := fun w => by
  have : (if b < a then b else a) = r := by rw [← hr]; omega
  simp [execOp, resolve, invoke, builtin, Builtin.min_, Builtin.min2, hx, hy, this]
theorem pr_max2 {ts : Array TypeId} (hx : op f x = .int k a) (hy : op f y = .int k b) (hr : max a b = r) : PR P f ⟨d, .call ⟨.builtin .max, #[x, y], ts⟩, t, pos, aft, g⟩ (.int k r) := fun w => by
  have : (if a < b then b else a) = r := by rw [← hr]; omega
  simp [execOp, resolve, invoke, builtin, Builtin.max_, Builtin.max2, hx, hy, this]

/-! ### texts -/
variable {s s' : List UInt8}
abbrev T (s : List UInt8) : Value := .string ⟨⟨s⟩⟩
theorem ba_toList (s : List UInt8) : (⟨⟨s⟩⟩ : ByteArray).toList = s := by rw [ByteArray.toList_eq]
theorem ba_size (s : List UInt8) : (⟨⟨s⟩⟩ : ByteArray).size = s.length := rfl
theorem pr_sadd (hx : op f x = T s) (hy : op f y = T s') (hl : ((s.length + s'.length : Nat) : Int) ≤ 9223372036854775807) : PR P f ⟨d, .binOp .add t1 x y t2, t, pos, aft, g⟩ (T (s ++ s')) := fun w => by
  have h : ¬ (((s.length + s'.length : Nat) : Int) > IntKind.i64.max) := by simp [IntKind.max, IntKind.signed, IntKind.bits]; omega
  have e : ((⟨⟨s⟩⟩ : ByteArray) ++ ⟨⟨s'⟩⟩) = ⟨⟨s ++ s'⟩⟩ := by
    apply ByteArray.ext
    simp [ByteArray.data_append]
  simp only [execOp, eqGuard, hx, hy, binOp, Op.stringOp, T, ba_size]
  simp only [h, if_false, e]
  rfl
theorem pr_seql (hx : op f x = T s) (hy : op f y = T s') : PR P f ⟨d, .binOp .eql t1 x y t2, t, pos, aft, g⟩ (.bool (s == s')) := fun w => by
  simp only [execOp, eqGuard, hx, hy, binOp, Op.stringOp, T, ba_toList]
  rfl
theorem pr_sneq (hx : op f x = T s) (hy : op f y = T s') : PR P f ⟨d, .binOp .neq t1 x y t2, t, pos, aft, g⟩ (.bool (!(s == s'))) := fun w => by
  simp only [execOp, eqGuard, hx, hy, binOp, Op.stringOp, T, ba_toList]
  rfl
theorem pr_slss (hx : op f x = T s) (hy : op f y = T s') : PR P f ⟨d, .binOp .lss t1 x y t2, t, pos, aft, g⟩ (.bool (Op.bytesLess s s')) := fun w => by
  simp only [execOp, eqGuard, hx, hy, binOp, Op.stringOp, T, ba_toList]
  rfl
theorem pr_slen (hx : op f x = T s) (ht : P.underlying t1 = some .string) (hr : (s.length : Int) = r) : PR P f ⟨d, .call ⟨.builtin .len, #[x], #[t1]⟩, t, pos, aft, g⟩ (.int .i64 r) := fun w => by
  subst hr
  simp [execOp, resolve, invoke, builtin, Builtin.len_, hx, underlying_run ht, goInt, ba_size]
theorem pr_sindex (ht : P.underlying t1 = some .string) (hx : op f x = T s) (hy : op f y = .int k a) (h0 : 0 ≤ a) (h1 : a < s.length) (hr : ((s.getD a.toNat 0).toNat : Int) = r) :
    PR P f ⟨d, .index t1 x y, t, pos, aft, g⟩ (.int .u8 r) := fun w => by
  have h2 : a.toNat < s.length := by omega
  subst hr
  have e : (⟨⟨s⟩⟩ : ByteArray)[a.toNat]? = some (s.getD a.toNat 0) := by
    have : (⟨⟨s⟩⟩ : ByteArray)[a.toNat]? = s[a.toNat]? := by
      simp only [getElem?_def]
      simp [ba_size, h2]
      rfl
    rw [this, List.getElem?_eq_getElem h2]
    simp [List.getD, List.getElem?_eq_getElem h2]
  simp only [execOp, Instr.index, hx, hy, T, Sem.run_bind, asIntOf, Sem.run_pure, Result.andThen_ok, underlying_run ht, h0, if_true, e]
theorem pr_sslice {lo hi : Option Operand} {l h : Nat} (ht : P.underlying t1 = some .string) (hx : op f x = T s) (hlo : (lo = none ∧ l = 0) ∨ ∃ o k, lo = some o ∧ op f o = .int k (l : Int))
    (hhi : (hi = none ∧ h = s.length) ∨ ∃ o k, hi = some o ∧ op f o = .int k (h : Int)) (h1 : l ≤ h) (h2 : h ≤ s.length) :
    PR P f ⟨d, .slice t1 x lo hi none, t, pos, aft, g⟩ (T ((s.take h).drop l)) := fun w => by
  have e : (⟨⟨s⟩⟩ : ByteArray).extract l h = ⟨⟨(s.take h).drop l⟩⟩ := by
    apply ByteArray.ext
    apply Array.ext'
    simp [ByteArray.data_extract, List.drop_take]
  have hl : ¬ ((s.length : Int) < (h : Int)) := by omega
  have hll : ¬ ((h : Int) < (l : Int)) := by omega
  have i1 : ((0 : Int) ≤ (h : Int) ∧ (h : Int) ≤ (s.length : Int)) := ⟨by omega, by omega⟩
  have i2 : ((0 : Int) ≤ (l : Int) ∧ (l : Int) ≤ (h : Int)) := ⟨by omega, by omega⟩
  rcases hlo with ⟨rfl, rfl⟩ | ⟨o, k, rfl, ho⟩ <;> rcases hhi with ⟨rfl, rfl⟩ | ⟨o', k', rfl, ho'⟩ <;>
    simp [execOp, Instr.sliceAt, Instr.slice, Instr.sliceBounds, Instr.sliceBound, hx, underlying_run ht, asIntOf, ba_size, *]
end
end Go.Q
