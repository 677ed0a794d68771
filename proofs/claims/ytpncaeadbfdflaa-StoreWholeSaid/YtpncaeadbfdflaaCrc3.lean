/- Plain facts for the statements of layer 2. Conditions: none. -/
import Derived.Test.YtpncaeadbfdflaaCrc2
set_option linter.unusedSimpArgs false
set_option linter.unusedVariables false
namespace Go.Q
theorem crc_check : ofS [49, 50, 51, 52, 53, 54, 55, 56, 57] = 3421780262#32 := by decide +kernel
theorem x8 (a b : UInt8) : IntKind.u8.wrap ((BitVec.ofInt IntKind.u8.bits (a.toNat : Int) ^^^ BitVec.ofInt IntKind.u8.bits (b.toNat : Int)).toNat : Int) = ((a ^^^ b).toNat : Int) := by
  have h : ∀ x : UInt8, BitVec.ofInt 8 (x.toNat : Int) = x.toBitVec := fun x => by
    apply BitVec.eq_of_toNat_eq
    have := x.toNat_lt
    simp [BitVec.toNat_ofInt]
  have h2 : ((BitVec.ofInt 8 (a.toNat : Int) ^^^ BitVec.ofInt 8 (b.toNat : Int) : BitVec 8).toNat : Int) = ((a ^^^ b).toNat : Int) := by
    rw [h, h]; rfl
  refine (congrArg _ h2).trans ?_
  rw [IntKind.wrap_u8]
  have := (a ^^^ b).toNat_lt
  omega
theorem bit_xor (a b : UInt8) (j : Nat) : (a ^^^ b).toNat.testBit j = (a.toNat.testBit j ^^ b.toNat.testBit j) := by
  rw [UInt8.toNat_xor, Nat.testBit_xor]
theorem sums4 {a b c d : List UInt8} (hb : b.length = a.length) (hc : c.length = a.length) (hd : d.length = a.length) (h : ∀ j, j < a.length → d.getD j 0 = a.getD j 0 ^^^ b.getD j 0 ^^^ c.getD j 0) :
    ofS a ^^^ ofS b ^^^ ofS c ^^^ ofS d = 0#32 := by
  have e : ∀ x : List UInt8, ofS x = ~~~ (runTo (bitAt x) (~~~ 0#32) (8 * x.length)) := fun x => by rw [ofS, moreS, runR_bits]
  have hd2 : ∀ j, j < 8 * a.length → bitAt d j = (bitAt a j ^^ bitAt b j ^^ bitAt c j) := by
    intro j hj
    unfold bitAt
    rw [h (j / 8) (by omega), bit_xor, bit_xor]
  rw [e, e, e, e, hb, hc, hd, runTo_congr _ _ hd2]
  have h1 := runTo_xor (fun j => bitAt a j ^^ bitAt b j) (bitAt c) (~~~ 0#32 ^^^ ~~~ 0#32) (~~~ 0#32) (8 * a.length)
  have h2 := runTo_xor (bitAt a) (bitAt b) (~~~ 0#32) (~~~ 0#32) (8 * a.length)
  have e3 : (~~~ 0#32 ^^^ ~~~ 0#32 ^^^ ~~~ 0#32 : R) = ~~~ 0#32 := by decide
  rw [e3, h2] at h1
  rw [h1]
  generalize runTo (bitAt a) (~~~ 0#32) (8 * a.length) = x
  generalize runTo (bitAt b) (~~~ 0#32) (8 * a.length) = y
  generalize runTo (bitAt c) (~~~ 0#32) (8 * a.length) = z
  apply BitVec.eq_of_getLsbD_eq
  intro i hi
  rw [BitVec.getLsbD_xor, BitVec.getLsbD_xor, BitVec.getLsbD_xor, BitVec.getLsbD_not, BitVec.getLsbD_not, BitVec.getLsbD_not, BitVec.getLsbD_not, BitVec.getLsbD_xor, BitVec.getLsbD_xor, BitVec.getLsbD_zero]
  simp only [hi, decide_true, Bool.true_and]
  cases x.getLsbD i <;> cases y.getLsbD i <;> cases z.getLsbD i <;> rfl
theorem toNat0 {x : R} (h : x = 0#32) : (((x.toNat : Nat) : Int) = 0) := by rw [h]; rfl
end Go.Q
namespace Go.Q
/-! ### bits turned one by one -/
def bit8 (m : Nat) : UInt8 := UInt8.ofNat (2 ^ m)
theorem bit8_nat {m : Nat} (h : m < 8) : (bit8 m).toNat = 2 ^ m := by
  unfold bit8
  exact u8_of_lt (Nat.lt_of_lt_of_le (Nat.pow_lt_pow_right (by omega) h) (by decide))
theorem shl8 {m : Nat} (h : m < 8) : IntKind.u8.wrap (1 * 2 ^ (min ((m : Nat) : Int).toNat IntKind.u8.bits)) = ((bit8 m).toNat : Int) := by
  have e : min ((m : Nat) : Int).toNat IntKind.u8.bits = m := by show min _ 8 = _; omega
  rw [e, bit8_nat h, IntKind.wrap_u8, Int.one_mul]
  have h2 : (2 : Nat) ^ m < 256 := Nat.lt_of_lt_of_le (Nat.pow_lt_pow_right (by omega) h) (by decide)
  have h3 : ((2 : Int) ^ m) = ((2 ^ m : Nat) : Int) := by rw [Int.natCast_pow]; rfl
  rw [h3]
  generalize (2 : Nat) ^ m = x at h2
  omega
theorem flip_bit {xs : List UInt8} {q p : Nat} (hp : p = q / 8) (hq : q / 8 < xs.length) (j : Nat) : bitAt (xs.set p (xs.getD p 0 ^^^ bit8 (q % 8))) j = (bitAt xs j ^^ decide (j = q)) := by
  subst hp
  unfold bitAt
  by_cases h : j / 8 = q / 8
  · rw [h]
    have e : (xs.set (q / 8) (xs.getD (q / 8) 0 ^^^ bit8 (q % 8))).getD (q / 8) 0 = xs.getD (q / 8) 0 ^^^ bit8 (q % 8) := by
      simp [List.getD, hq]
    rw [e, bit_xor, bit8_nat (Nat.mod_lt _ (by omega)), Nat.testBit_two_pow]
    congr 1
    have : (q % 8 = j % 8) ↔ (j = q) := by omega
    simp only [this]
  · have e : (xs.set (q / 8) (xs.getD (q / 8) 0 ^^^ bit8 (q % 8))).getD (j / 8) 0 = xs.getD (j / 8) 0 := by
      simp only [List.getD]
      rw [List.getElem?_set_ne (fun h2 => h h2.symm)]
    have h2 : ¬ (j = q) := fun h2 => h (by rw [h2])
    rw [e]
    simp [h2]
def wn (k i : Nat) (t : R) (j : Nat) : Bool := decide (k ≤ j) && decide (j < k + i) && t.getLsbD (j - k)
theorem wn_T {k i : Nat} {t : R} (h : t.getLsbD i = true) (j : Nat) : wn k (i + 1) t j = (wn k i t j ^^ decide (j = k + i)) := by
  unfold wn
  by_cases h1 : j = k + i
  · subst h1
    simp [h]
  · have e : (j < k + (i + 1)) ↔ (j < k + i) := by omega
    simp [h1, e]
theorem wn_F {k i : Nat} {t : R} (h : t.getLsbD i = false) (j : Nat) : wn k (i + 1) t j = wn k i t j := by
  unfold wn
  by_cases h1 : j = k + i
  · subst h1
    simp [h]
  · have e : (j < k + (i + 1)) ↔ (j < k + i) := by omega
    simp [e]
theorem wn_0 (k : Nat) (t : R) (j : Nat) : wn k 0 t j = false := by unfold wn; by_cases h : k ≤ j <;> simp [h]; omega
theorem shr_low {t : R} {i : Nat} : (t >>> i).getLsbD 0 = t.getLsbD i := by simp [BitVec.getLsbD_ushiftRight]
theorem turned_open {b xs : List UInt8} {k : Nat} {t : R} (hl : xs.length = (sealS b).length) (ht : t ≠ 0#32) (hk : k + 32 ≤ 8 * (sealS b).length)
    (hx : ∀ j, j < 8 * (sealS b).length → bitAt xs j = (bitAt (sealS b) j ^^ wn k 32 t j)) : openS xs = ([], 3) := by
  have h4 : 4 ≤ xs.length := by rw [hl, sealS_len]; omega
  rw [openS, if_neg (by omega), if_neg]
  intro h
  exact turned (a := sealS b) (b := xs) rfl h.symm hl.symm ht hk hx
end Go.Q
