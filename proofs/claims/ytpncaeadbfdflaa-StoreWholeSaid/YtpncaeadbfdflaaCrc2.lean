/- The sum's operations on numbers, as the program's operators tell them. Conditions: none. -/
import Derived.Test.YtpncaeadbfdflaaCrc
set_option linter.unusedSimpArgs false
set_option linter.unusedVariables false
namespace Go.Q
theorem ofInt32 (a : R) : BitVec.ofInt IntKind.u32.bits ((a.toNat : Nat) : Int) = a := by
  show BitVec.ofInt 32 _ = a
  simp
theorem wrap32 (a : R) : IntKind.u32.wrap ((a.toNat : Nat) : Int) = ((a.toNat : Nat) : Int) := IntWalk.u32_in _ (by have := a.isLt; omega)
theorem x32 (a b : R) : IntKind.u32.wrap ((BitVec.ofInt IntKind.u32.bits ((a.toNat : Nat) : Int) ^^^ BitVec.ofInt IntKind.u32.bits ((b.toNat : Nat) : Int)).toNat : Int) = (((a ^^^ b).toNat : Nat) : Int) := by
  rw [ofInt32, ofInt32]; exact wrap32 _
theorem xp32 (a : R) : IntKind.u32.wrap ((BitVec.ofInt IntKind.u32.bits ((a.toNat : Nat) : Int) ^^^ BitVec.ofInt IntKind.u32.bits 3988292384).toNat : Int) = (((a ^^^ poly).toNat : Nat) : Int) := x32 a poly
theorem a32 (a : R) : IntKind.u32.wrap ((BitVec.ofInt IntKind.u32.bits ((a.toNat : Nat) : Int) &&& BitVec.ofInt IntKind.u32.bits 1).toNat : Int) = (((a &&& 1#32).toNat : Nat) : Int) := by
  rw [ofInt32]; exact wrap32 (a &&& 1#32)
theorem o32 (a b : R) : IntKind.u32.wrap ((BitVec.ofInt IntKind.u32.bits ((a.toNat : Nat) : Int) ||| BitVec.ofInt IntKind.u32.bits ((b.toNat : Nat) : Int)).toNat : Int) = (((a ||| b).toNat : Nat) : Int) := by
  rw [ofInt32, ofInt32]; exact wrap32 _
theorem inv32 (a : R) : IntKind.u32.wrap ((BitVec.ofInt IntKind.u32.bits (if IntKind.u32.signed then -1 else IntKind.u32.max) ^^^ BitVec.ofInt IntKind.u32.bits ((a.toNat : Nat) : Int)).toNat : Int) = (((~~~ a).toNat : Nat) : Int) := by
  rw [ofInt32]
  have h : (BitVec.ofInt 32 4294967295 : R) ^^^ a = ~~~ a := by
    have : (BitVec.ofInt 32 4294967295 : R) = BitVec.allOnes 32 := by decide
    rw [this]
    apply BitVec.eq_of_getLsbD_eq
    intro i hi
    rw [BitVec.getLsbD_xor, BitVec.getLsbD_not, BitVec.getLsbD_allOnes]
    simp [hi]
  exact (congrArg (fun x : R => IntKind.u32.wrap ((x.toNat : Nat) : Int)) h).trans (wrap32 _)
theorem rb32 (c : UInt8) : IntKind.u32.wrap (c.toNat : Int) = (((rb c).toNat : Nat) : Int) := by
  have h := c.toNat_lt
  rw [rb, BitVec.toNat_ofNat, Nat.mod_eq_of_lt (by omega)]
  exact IntWalk.u32_in _ (by omega)
theorem shr32 (a : R) (k : Nat) (hk : k ≤ 32) : ((a.toNat : Nat) : Int).fdiv (2 ^ (min (k : Int).toNat IntKind.u32.bits)) = (((a >>> k).toNat : Nat) : Int) := by
  have : min (k : Int).toNat IntKind.u32.bits = k := by show min (k : Int).toNat 32 = k; omega
  rw [this, fdiv_pow, BitVec.toNat_ushiftRight, Nat.shiftRight_eq_div_pow]
theorem shl32 (a : R) (k : Nat) (hk : k ≤ 32) : IntKind.u32.wrap (((a.toNat : Nat) : Int) * 2 ^ (min (k : Int).toNat IntKind.u32.bits)) = (((a <<< k).toNat : Nat) : Int) := by
  have : min (k : Int).toNat IntKind.u32.bits = k := by show min (k : Int).toNat 32 = k; omega
  have e : ((a.toNat : Nat) : Int) * 2 ^ k = ((a.toNat * 2 ^ k : Nat) : Int) := by rw [Int.natCast_mul, Int.natCast_pow]; rfl
  rw [this, BitVec.toNat_shiftLeft, Nat.shiftLeft_eq, IntKind.wrap_u32, e]
  omega
theorem and1 (r : R) : (r &&& 1#32).toNat = if r.getLsbD 0 = true then 1 else 0 := by
  rw [BitVec.toNat_and, show (1#32).toNat = 1 from rfl, Nat.and_one_is_mod]
  have : r.getLsbD 0 = decide (r.toNat % 2 = 1) := by simp [BitVec.getLsbD, Nat.testBit_zero]
  rw [this]
  simp only [decide_eq_true_eq]
  split <;> omega
theorem low_T {r : R} (h : (((r &&& 1#32).toNat : Nat) : Int) = 1) : r.getLsbD 0 = true := by
  rw [and1] at h
  split at h
  · assumption
  · omega
theorem low_F {r : R} (h : ¬ (((r &&& 1#32).toNat : Nat) : Int) = 1) : r.getLsbD 0 = false := by
  rw [and1] at h
  split at h
  · omega
  · simpa using ‹¬ r.getLsbD 0 = true›
theorem stp_T {r : R} (h : r.getLsbD 0 = true) : stp r = (r >>> 1) ^^^ poly := by rw [stp, if_pos h]
theorem stp_F {r : R} (h : r.getLsbD 0 = false) : stp r = r >>> 1 := by rw [stp, h]; rfl
theorem runR_take (r : R) (bs : List UInt8) (i : Nat) (h : i < bs.length) : runR r (bs.take (i + 1)) = trn (runR r (bs.take i)) (bs.getD i 0) := by
  rw [take_succ_getD bs i h, runR_app]; rfl

/-! ### the document's way: in 64 bits, bit by bit -/
theorem ofInt64 (a : R) : BitVec.ofInt IntKind.u64.bits ((a.toNat : Nat) : Int) = BitVec.setWidth 64 a := by
  show BitVec.ofInt 64 _ = _
  apply BitVec.eq_of_toNat_eq
  have := a.isLt
  simp [BitVec.toNat_ofInt]
theorem xp64 (a : R) : IntKind.u64.wrap ((BitVec.ofInt IntKind.u64.bits ((a.toNat : Nat) : Int) ^^^ BitVec.ofInt IntKind.u64.bits 3988292384).toNat : Int) = (((a ^^^ poly).toNat : Nat) : Int) := by
  have h : (BitVec.ofInt 64 3988292384 : BitVec 64) = BitVec.setWidth 64 poly := by decide
  rw [ofInt64]
  have h2 : (BitVec.setWidth 64 a ^^^ BitVec.setWidth 64 poly).toNat = (a ^^^ poly).toNat := by
    rw [← BitVec.setWidth_xor, BitVec.toNat_setWidth]
    have := (a ^^^ poly).isLt
    omega
  have h3 : ((BitVec.setWidth 64 a ^^^ BitVec.setWidth 64 poly : BitVec 64).toNat : Int) = (((a ^^^ poly).toNat : Nat) : Int) := congrArg _ h2
  rw [← h] at h3
  refine (congrArg _ h3).trans (IntWalk.u64_in _ ?_)
  have := (a ^^^ poly).isLt
  omega
theorem half64 (a : R) : IntKind.u64.wrap (((a.toNat : Nat) : Int).tdiv 2) = (((a >>> 1).toNat : Nat) : Int) := by
  rw [BitVec.toNat_ushiftRight, Nat.shiftRight_eq_div_pow]
  have h : ((a.toNat : Nat) : Int).tdiv 2 = ((a.toNat / 2 : Nat) : Int) := rfl
  rw [h]
  exact IntWalk.u64_in _ (by have := a.isLt; omega)
theorem low64 (a : R) : ((a.toNat : Nat) : Int).tmod 2 = (((a.getLsbD 0).toNat : Nat) : Int) := by
  have h : ((a.toNat : Nat) : Int).tmod 2 = ((a.toNat % 2 : Nat) : Int) := rfl
  rw [h]
  congr 1
  simp only [BitVec.getLsbD, Nat.testBit_zero]
  have := Nat.mod_two_eq_zero_or_one a.toNat
  rcases this with h | h <;> simp [h]
theorem bit64 {b : List UInt8} {i : Nat} : (((b.getD ((i / 8 : Nat) : Int).toNat 0).toNat : Int).fdiv (2 ^ (min (((i % 8 : Nat) : Int)).toNat IntKind.u64.bits))).tmod 2 = (((bitAt b i).toNat : Nat) : Int) := by
  have : min (((i % 8 : Nat) : Int)).toNat IntKind.u64.bits = i % 8 := by show min _ 64 = _; omega
  rw [this, fdiv_pow]
  show ((((b.getD (i / 8) 0).toNat / 2 ^ (i % 8) : Nat) : Int).tmod 2) = _
  rw [bitAt, Nat.testBit_eq_decide_div_mod_eq]
  generalize (b.getD (i / 8) 0).toNat / 2 ^ (i % 8) = x
  have h : ((x : Nat) : Int).tmod 2 = ((x % 2 : Nat) : Int) := rfl
  rw [h]
  congr 1
  rcases Nat.mod_two_eq_zero_or_one x with h | h <;> simp [h]
theorem one_shr (b : Bool) : one b >>> 1 = 0#32 := by cases b <;> decide
theorem stpx (x : R) (b : Bool) : stp (x ^^^ one b) = if x.getLsbD 0 = b then x >>> 1 else (x >>> 1) ^^^ poly := by
  have h : (x ^^^ one b).getLsbD 0 = (x.getLsbD 0 ^^ b) := by rw [BitVec.getLsbD_xor]; cases b <;> simp [one]
  have h2 : (x ^^^ one b) >>> 1 = x >>> 1 := by rw [BitVec.ushiftRight_xor_distrib, one_shr, BitVec.xor_zero]
  unfold stp
  rw [h, h2]
  cases x.getLsbD 0 <;> cases b <;> rfl
theorem step_ne {x : R} {b : Bool} (h : ¬ (((x.getLsbD 0).toNat : Nat) : Int) = ((b.toNat : Nat) : Int)) : stp (x ^^^ one b) = (x >>> 1) ^^^ poly := by
  rw [stpx, if_neg]
  intro h2; exact h (by rw [h2])
theorem step_eq {x : R} {b : Bool} (h : (((x.getLsbD 0).toNat : Nat) : Int) = ((b.toNat : Nat) : Int)) : stp (x ^^^ one b) = x >>> 1 := by
  rw [stpx, if_pos]
  generalize x.getLsbD 0 = c at h
  cases c <;> cases b <;> first | rfl | cases h
theorem sub64 (a : R) : IntKind.u64.wrap (4294967295 - ((a.toNat : Nat) : Int)) = (((~~~ a).toNat : Nat) : Int) := by
  have := a.isLt
  rw [BitVec.toNat_not]
  rw [IntWalk.u64_in _ (by omega)]
  omega
theorem conv64 (a : R) : IntKind.u32.wrap ((a.toNat : Nat) : Int) = ((a.toNat : Nat) : Int) := wrap32 a
theorem up64 (a : R) : IntKind.u64.wrap ((a.toNat : Nat) : Int) = ((a.toNat : Nat) : Int) := IntWalk.u64_in _ (by have := a.isLt; omega)
theorem all1 : ((4294967295 : Nat) : Int) = (((~~~ 0#32 : R).toNat : Nat) : Int) := by decide

/-! ### the four bytes -/
theorem byte0 (s : R) : IntKind.u8.wrap ((s.toNat : Nat) : Int) = ((byteOf s 0).toNat : Int) := by
  rw [IntKind.wrap_u8, byteOf, u8_of_lt (Nat.mod_lt _ (by omega))]; omega
theorem byteK (s : R) (k : Nat) (hk : k ≤ 3) : IntKind.u8.wrap (((s >>> (8 * k)).toNat : Nat) : Int) = ((byteOf s k).toNat : Int) := by
  rw [IntKind.wrap_u8, byteOf, u8_of_lt (Nat.mod_lt _ (by omega)), BitVec.toNat_ushiftRight, Nat.shiftRight_eq_div_pow, Nat.pow_mul, show (2 : Nat) ^ 8 = 256 from rfl]
  generalize s.toNat / 256 ^ k = x
  omega
def un4 (a b c d : UInt8) : R := rb a ||| (rb b <<< 8) ||| (rb c <<< 16) ||| (rb d <<< 24)
theorem rb_big (c : UInt8) (j : Nat) (hj : 8 ≤ j) : (rb c).getLsbD j = false := by
  rw [rb, BitVec.getLsbD_ofNat, Bool.and_eq_false_iff]
  right
  apply Nat.testBit_lt_two_pow
  have := c.toNat_lt
  exact Nat.lt_of_lt_of_le this (Nat.pow_le_pow_right (by omega) hj)
theorem byte_un4 (a b c d : UInt8) : le4 (un4 a b c d) = [a, b, c, d] := by
  have h : ∀ (k : Nat) (x : UInt8), k < 4 → (∀ j, j < 8 → (un4 a b c d).getLsbD (8 * k + j) = x.toNat.testBit j) → byteOf (un4 a b c d) k = x := by
    intro k x hk hb
    apply UInt8.toNat_inj.1
    apply Nat.eq_of_testBit_eq
    intro j
    by_cases hj : j < 8
    · rw [byteOf_bit _ _ _ hj, hb j hj]
    · have h1 : ∀ y : UInt8, y.toNat.testBit j = false := fun y => Nat.testBit_lt_two_pow (Nat.lt_of_lt_of_le y.toNat_lt (Nat.pow_le_pow_right (by omega) (by omega)))
      rw [h1, h1]
  have e : ∀ i, i < 32 → (un4 a b c d).getLsbD i = ((rb a).getLsbD i || (decide (8 ≤ i) && (rb b).getLsbD (i - 8)) || (decide (16 ≤ i) && (rb c).getLsbD (i - 16)) || (decide (24 ≤ i) && (rb d).getLsbD (i - 24))) := by
    intro i hi
    have n8 : (!decide (i < 8)) = decide (8 ≤ i) := by by_cases h : i < 8 <;> simp [h] <;> omega
    have n16 : (!decide (i < 16)) = decide (16 ≤ i) := by by_cases h : i < 16 <;> simp [h] <;> omega
    have n24 : (!decide (i < 24)) = decide (24 ≤ i) := by by_cases h : i < 24 <;> simp [h] <;> omega
    simp only [un4, BitVec.getLsbD_or, BitVec.getLsbD_shiftLeft, hi, decide_true, Bool.true_and, n8, n16, n24]
  unfold le4
  congr 1
  · refine h 0 a (by omega) fun j hj => ?_
    rw [e _ (by omega), ← rb_bit a j hj]
    simp [show ¬ (8 ≤ j) by omega, show ¬ (16 ≤ j) by omega, show ¬ (24 ≤ j) by omega]
  congr 1
  · refine h 1 b (by omega) fun j hj => ?_
    rw [e _ (by omega), ← rb_bit b j hj, rb_big a _ (by omega)]
    simp [show ¬ (16 ≤ 8 + j) by omega, show ¬ (24 ≤ 8 + j) by omega]
  congr 1
  · refine h 2 c (by omega) fun j hj => ?_
    rw [e _ (by omega), ← rb_bit c j hj, rb_big a _ (by omega), rb_big b _ (by omega)]
    simp [show ¬ (24 ≤ 16 + j) by omega]
  congr 1
  · refine h 3 d (by omega) fun j hj => ?_
    rw [e _ (by omega), ← rb_bit d j hj, rb_big a _ (by omega), rb_big b _ (by omega), rb_big c _ (by omega)]
    simp
theorem le4_inj {s t : R} (h : le4 s = le4 t) : s = t := by
  apply BitVec.eq_of_getLsbD_eq
  intro i hi
  rw [← le4_bit s i hi, ← le4_bit t i hi, h]
theorem quo4 (s : R) (i : Nat) : IntKind.u32.wrap (((s.toNat / 256 ^ i : Nat) : Int).tdiv 256) = ((s.toNat / 256 ^ (i + 1) : Nat) : Int) := by
  have h : ((s.toNat / 256 ^ i : Nat) : Int).tdiv 256 = ((s.toNat / 256 ^ i / 256 : Nat) : Int) := rfl
  have h2 : s.toNat / 256 ^ (i + 1) ≤ s.toNat := Nat.div_le_self _ _
  have := s.isLt
  rw [h, Nat.div_div_eq_div_mul, ← Nat.pow_succ]
  generalize s.toNat / 256 ^ (i + 1) = x at *
  exact IntWalk.u32_in _ (by omega)
theorem rem4 (s : R) (i : Nat) : ((s.toNat / 256 ^ i : Nat) : Int).tmod 256 = ((s.toNat / 256 ^ i % 256 : Nat) : Int) := rfl
theorem le4_take {s : R} {i : Nat} (h : i < 4) : (le4 s).take (i + 1) = (le4 s).take i ++ [byteOf s i] := by
  rcases i with _ | _ | _ | _ | i <;> first | rfl | omega
def openS (b : List UInt8) : List UInt8 × Int := if b.length < 4 then ([], 4) else if sealS (b.take (b.length - 4)) = b then (b.take (b.length - 4), 0) else ([], 3)
theorem drop4 {b : List UInt8} (h : 4 ≤ b.length) : b.drop (b.length - 4) = [b.getD (b.length - 4) 0, b.getD (b.length - 4 + 1) 0, b.getD (b.length - 4 + 2) 0, b.getD (b.length - 4 + 3) 0] := by
  apply List.ext_getElem
  · simp; omega
  · intro i h1 h2
    simp only [List.length_cons, List.length_nil] at h2
    rw [List.getElem_drop]
    have h3 : b.length - 4 + i < b.length := by omega
    rcases i with _ | _ | _ | _ | i
    · simp only [Nat.add_zero] at h3 ⊢; simp [List.getD, List.getElem?_eq_getElem h3]
    · simp [List.getD, List.getElem?_eq_getElem h3]
    · simp [List.getD, List.getElem?_eq_getElem h3]
    · simp [List.getD, List.getElem?_eq_getElem h3]
    · omega
theorem seal_iff {b : List UInt8} (h : 4 ≤ b.length) : (ofS (b.take (b.length - 4)) = un4 (b.getD (b.length - 4) 0) (b.getD (b.length - 4 + 1) 0) (b.getD (b.length - 4 + 2) 0) (b.getD (b.length - 4 + 3) 0)) ↔ sealS (b.take (b.length - 4)) = b := by
  constructor
  · intro h1
    rw [sealS, h1, byte_un4, ← drop4 h, List.take_append_drop]
  · intro h1
    apply le4_inj
    rw [byte_un4, ← drop4 h]
    have h2 := congrArg (List.drop (b.length - 4)) h1
    rw [sealS, List.drop_left' (by simp)] at h2
    exact h2
theorem openS_short {b : List UInt8} (h : b.length < 4) : openS b = ([], 4) := by rw [openS, if_pos h]
theorem openS_yes {b : List UInt8} {n : Nat} (hn : b.length = n + 4) (h : ofS (b.take n) = un4 (b.getD n 0) (b.getD (n + 1) 0) (b.getD (n + 2) 0) (b.getD (n + 3) 0)) : openS b = (b.take n, 0) := by
  have e : b.length - 4 = n := by omega
  have := (seal_iff (b := b) (by omega)).1 (by rw [e]; exact h)
  rw [openS, if_neg (by omega), if_pos this, e]
theorem openS_no {b : List UInt8} {n : Nat} (hn : b.length = n + 4) (h : ¬ ofS (b.take n) = un4 (b.getD n 0) (b.getD (n + 1) 0) (b.getD (n + 2) 0) (b.getD (n + 3) 0)) : openS b = ([], 3) := by
  have e : b.length - 4 = n := by omega
  rw [openS, if_neg (by omega), if_neg]
  intro h2
  have := (seal_iff (b := b) (by omega)).2 h2
  rw [e] at this
  exact h this
theorem open_seal (b : List UInt8) : openS (sealS b) = (b, 0) := by
  have h : (sealS b).take ((sealS b).length - 4) = b := by rw [sealS_len]; simp [sealS]
  rw [openS, if_neg (by rw [sealS_len]; omega), h, if_pos rfl]
theorem toNat_ne {a b : R} (h : ¬ ((a.toNat : Nat) : Int) = ((b.toNat : Nat) : Int)) : ¬ a = b := fun e => h (by rw [e])
theorem toNat_eq {a b : R} (h : ((a.toNat : Nat) : Int) = ((b.toNat : Nat) : Int)) : a = b := BitVec.eq_of_toNat_eq (by omega)
end Go.Q
