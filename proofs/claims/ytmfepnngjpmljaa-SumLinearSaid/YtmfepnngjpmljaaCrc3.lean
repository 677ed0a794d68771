/- Plain facts for the statements of layer 2. Conditions: none. -/
import Derived.Test.YtmfepnngjpmljaaCrc2
set_option linter.unusedSimpArgs false
set_option linter.unusedVariables false
namespace Go.Q
theorem crc_check : ofS [49, 50, 51, 52, 53, 54, 55, 56, 57] = 3421780262#32 := by decide +kernel
theorem x8 (a b : UInt8) : IntKind.u8.wrap ((BitVec.ofInt IntKind.u8.bits (a.toNat : Int) ^^^ BitVec.ofInt IntKind.u8.bits (b.toNat : Int)).toNat : Int) = ((a ^^^ b).toNat : Int) := by
  have h : ∀ x : UInt8, BitVec.ofInt 8 (x.toNat : Int) = x.toBitVec := fun x => by
    apply BitVec.eq_of_toNat_eq
    have := x.toNat_lt
    simp [BitVec.toNat_ofInt]
  have h2 : ((BitVec.ofInt 8 (a.toNat : Int) ^^^ BitVec.ofInt 8 (b.toNat : Int) : BitVec 8).toNat : Int) = ((a ^^^ b).toNat : Int) := by
    rw [h, h]; rfl
  refine (congrArg _ h2).trans ?_
  rw [IntKind.wrap_u8]
  have := (a ^^^ b).toNat_lt
  omega
theorem bit_xor (a b : UInt8) (j : Nat) : (a ^^^ b).toNat.testBit j = (a.toNat.testBit j ^^ b.toNat.testBit j) := by
  rw [UInt8.toNat_xor, Nat.testBit_xor]
theorem sums4 {a b c d : List UInt8} (hb : b.length = a.length) (hc : c.length = a.length) (hd : d.length = a.length) (h : ∀ j, j < a.length → d.getD j 0 = a.getD j 0 ^^^ b.getD j 0 ^^^ c.getD j 0) :
    ofS a ^^^ ofS b ^^^ ofS c ^^^ ofS d = 0#32 := by
  have e : ∀ x : List UInt8, ofS x = ~~~ (runTo (bitAt x) (~~~ 0#32) (8 * x.length)) := fun x => by rw [ofS, moreS, runR_bits]
  have hd2 : ∀ j, j < 8 * a.length → bitAt d j = (bitAt a j ^^ bitAt b j ^^ bitAt c j) := by
    intro j hj
    unfold bitAt
    rw [h (j / 8) (by omega), bit_xor, bit_xor]
  rw [e, e, e, e, hb, hc, hd, runTo_congr _ _ hd2]
  have h1 := runTo_xor (fun j => bitAt a j ^^ bitAt b j) (bitAt c) (~~~ 0#32 ^^^ ~~~ 0#32) (~~~ 0#32) (8 * a.length)
  have h2 := runTo_xor (bitAt a) (bitAt b) (~~~ 0#32) (~~~ 0#32) (8 * a.length)
  have e3 : (~~~ 0#32 ^^^ ~~~ 0#32 ^^^ ~~~ 0#32 : R) = ~~~ 0#32 := by decide
  rw [e3, h2] at h1
  rw [h1]
  generalize runTo (bitAt a) (~~~ 0#32) (8 * a.length) = x
  generalize runTo (bitAt b) (~~~ 0#32) (8 * a.length) = y
  generalize runTo (bitAt c) (~~~ 0#32) (8 * a.length) = z
  apply BitVec.eq_of_getLsbD_eq
  intro i hi
  rw [BitVec.getLsbD_xor, BitVec.getLsbD_xor, BitVec.getLsbD_xor, BitVec.getLsbD_not, BitVec.getLsbD_not, BitVec.getLsbD_not, BitVec.getLsbD_not, BitVec.getLsbD_xor, BitVec.getLsbD_xor, BitVec.getLsbD_zero]
  simp only [hi, decide_true, Bool.true_and]
  cases x.getLsbD i <;> cases y.getLsbD i <;> cases z.getLsbD i <;> rfl
theorem toNat0 {x : R} (h : x = 0#32) : (((x.toNat : Nat) : Int) = 0) := by rw [h]; rfl
end Go.Q
