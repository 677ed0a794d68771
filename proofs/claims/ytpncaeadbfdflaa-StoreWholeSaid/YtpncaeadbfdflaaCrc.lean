/- The sum of bytes (CRC-32), plainly: registers, bits, and what turned bits do. No program in sight; conditions: none. -/
import Derived.Test.YtpncaeadbfdflaaMath1
set_option linter.unusedSimpArgs false
set_option linter.unusedVariables false
namespace Go.Q
abbrev R := BitVec 32
def poly : R := 0xedb88320#32
def stp (r : R) : R := if r.getLsbD 0 = true then (r >>> 1) ^^^ poly else r >>> 1
def stps : Nat → R → R
  | 0, r => r
  | n + 1, r => stp (stps n r)
def rb (c : UInt8) : R := BitVec.ofNat 32 c.toNat
def trn (r : R) (c : UInt8) : R := stps 8 (r ^^^ rb c)
def runR (r : R) (bs : List UInt8) : R := bs.foldl trn r
def moreS (s : R) (bs : List UInt8) : R := ~~~ (runR (~~~ s) bs)
def ofS (bs : List UInt8) : R := moreS 0#32 bs
theorem runR_app (r : R) (a b : List UInt8) : runR r (a ++ b) = runR (runR r a) b := by simp [runR]
theorem moreS_more (a b : List UInt8) : ofS (a ++ b) = moreS (ofS a) b := by simp [ofS, moreS, runR_app]

/-! ### linear -/
theorem stp_xor (x y : R) : stp (x ^^^ y) = stp x ^^^ stp y := by
  apply BitVec.eq_of_getLsbD_eq
  intro i hi
  unfold stp
  rw [BitVec.getLsbD_xor]
  cases hx : x.getLsbD 0 <;> cases hy : y.getLsbD 0 <;> simp [BitVec.getLsbD_xor, BitVec.getLsbD_ushiftRight] <;>
    (cases x.getLsbD (1 + i) <;> cases y.getLsbD (1 + i) <;> cases poly.getLsbD i <;> rfl)
theorem stp_zero : stp 0#32 = 0#32 := by decide
theorem stps_zero : ∀ n, stps n 0#32 = 0#32
  | 0 => rfl
  | n + 1 => by rw [stps, stps_zero n, stp_zero]
/-- The highest bit of the polynomial is set: the step can be taken back. -/
theorem stp_ne {r : R} (h : r ≠ 0#32) : stp r ≠ 0#32 := by
  intro h0
  apply h
  unfold stp at h0
  split at h0
  · have h31 := congrArg (fun x : R => x.getLsbD 31) h0
    simp [BitVec.getLsbD_xor, BitVec.getLsbD_ushiftRight, poly] at h31
  · rename_i hb
    apply BitVec.eq_of_getLsbD_eq
    intro i hi
    cases i with
    | zero => simpa using hb
    | succ i =>
      have := congrArg (fun x : R => x.getLsbD i) h0
      simp [BitVec.getLsbD_ushiftRight] at this
      rw [Nat.add_comm i 1, this]
      simp
theorem stps_ne {r : R} (h : r ≠ 0#32) : ∀ n, stps n r ≠ 0#32
  | 0 => h
  | n + 1 => stp_ne (stps_ne h n)
theorem stps_add (m : Nat) (r : R) : ∀ n, stps (n + m) r = stps n (stps m r)
  | 0 => by simp [stps]
  | n + 1 => by rw [show n + 1 + m = (n + m) + 1 by omega, stps, stps_add m r n, stps]

/-! ### bit by bit -/
def one (b : Bool) : R := if b = true then 1#32 else 0#32
def runTo (p : Nat → Bool) (r : R) : Nat → R
  | 0 => r
  | i + 1 => stp (runTo p r i ^^^ one (p i))
theorem one_xor (a b : Bool) : one (a ^^ b) = one a ^^^ one b := by cases a <;> cases b <;> rfl
theorem xor4 (a b c d : R) : (a ^^^ b) ^^^ (c ^^^ d) = (a ^^^ c) ^^^ (b ^^^ d) := by
  rw [BitVec.xor_assoc, BitVec.xor_assoc, ← BitVec.xor_assoc b c d, BitVec.xor_comm b c, BitVec.xor_assoc]
theorem runTo_xor (p q : Nat → Bool) (r s : R) : ∀ n, runTo (fun j => p j ^^ q j) (r ^^^ s) n = runTo p r n ^^^ runTo q s n
  | 0 => rfl
  | n + 1 => by
    rw [runTo, runTo_xor p q r s n, one_xor, xor4, stp_xor, runTo, runTo]
theorem runTo_congr {p q : Nat → Bool} (r : R) : ∀ n, (∀ j, j < n → p j = q j) → runTo p r n = runTo q r n
  | 0, _ => rfl
  | n + 1, h => by rw [runTo, runTo, runTo_congr r n (fun j hj => h j (by omega)), h n (by omega)]
theorem runTo_add (p : Nat → Bool) (r : R) (m : Nat) : ∀ n, runTo p r (m + n) = runTo (fun j => p (m + j)) (runTo p r m) n
  | 0 => rfl
  | n + 1 => by rw [← Nat.add_assoc, runTo, runTo_add p r m n, runTo]
theorem runTo_zero : ∀ n, runTo (fun _ => false) 0#32 n = 0#32
  | 0 => rfl
  | n + 1 => by rw [runTo, runTo_zero n]; decide
theorem shr_step (t : R) (j : Nat) : t >>> j = one (t.getLsbD j) ^^^ ((t >>> j) &&& ~~~ 1#32) := by
  apply BitVec.eq_of_getLsbD_eq
  intro i hi
  cases i with
  | zero => cases h : t.getLsbD j <;> simp [one, h, BitVec.getLsbD_ushiftRight]
  | succ i =>
    have h1 : (one (t.getLsbD j)).getLsbD (i + 1) = false := by cases t.getLsbD j <;> simp [one, BitVec.getLsbD_one]
    have h2 : (~~~ 1#32).getLsbD (i + 1) = true := by
      rw [BitVec.getLsbD_not, BitVec.getLsbD_one]
      simp [hi]
    rw [BitVec.getLsbD_xor, BitVec.getLsbD_and, h1, h2]
    simp
theorem stp_even (t : R) (j : Nat) : stp ((t >>> j) &&& ~~~ 1#32) = t >>> (j + 1) := by
  have h0 : ((t >>> j) &&& ~~~ 1#32).getLsbD 0 = false := by simp
  unfold stp
  rw [h0]
  simp only [Bool.false_eq_true, if_false]
  apply BitVec.eq_of_getLsbD_eq
  intro i hi
  simp only [BitVec.getLsbD_ushiftRight, BitVec.getLsbD_and, BitVec.getLsbD_not, BitVec.getLsbD_one]
  by_cases h : 1 + i < 32
  · simp [h, show j + (1 + i) = j + 1 + i by omega]
  · have : j + 1 + i ≥ 32 := by omega
    simp [h, BitVec.getLsbD_of_ge t _ this]
/-- So many bits of t, the lowest first, taken in one by one: as if all of t had been taken in at once. -/
theorem runTo_bits (t r : R) : ∀ j, runTo (fun i => t.getLsbD i) r j ^^^ (t >>> j) = stps j (r ^^^ t)
  | 0 => by simp [runTo, stps]
  | j + 1 => by
    rw [runTo, stps, ← runTo_bits t r j]
    conv => rhs; rw [shr_step t j]
    rw [← BitVec.xor_assoc, stp_xor (_ ^^^ _), stp_even]
theorem runTo_32 (t r : R) : runTo (fun i => t.getLsbD i) r 32 = stps 32 (r ^^^ t) := by
  rw [← runTo_bits t r 32]
  have : t >>> 32 = 0#32 := by
    apply BitVec.eq_of_getLsbD_eq
    intro i hi
    simp [BitVec.getLsbD_ushiftRight, BitVec.getLsbD_of_ge t (32 + i) (by omega)]
  rw [this, BitVec.xor_zero]

/-! ### bytes and bits -/
def bitAt (bs : List UInt8) (j : Nat) : Bool := (bs.getD (j / 8) 0).toNat.testBit (j % 8)
theorem rb_bit (c : UInt8) (j : Nat) (hj : j < 8) : (rb c).getLsbD j = c.toNat.testBit j := by
  simp [rb, BitVec.getLsbD_ofNat]
  omega
theorem trn_bits (r : R) (c : UInt8) : trn r c = runTo (fun j => c.toNat.testBit j) r 8 := by
  unfold trn
  rw [← runTo_bits (rb c) r 8]
  have h0 : rb c >>> 8 = 0#32 := by
    apply BitVec.eq_of_getLsbD_eq
    intro i hi
    have hz : (0#32).getLsbD i = false := BitVec.getLsbD_zero
    rw [hz, rb, BitVec.getLsbD_ushiftRight, BitVec.getLsbD_ofNat, Bool.and_eq_false_iff]
    right
    apply Nat.testBit_lt_two_pow
    have := c.toNat_lt
    exact Nat.lt_of_lt_of_le this (by rw [show (2 : Nat) ^ 8 = 2 ^ 8 from rfl]; exact Nat.pow_le_pow_right (by omega) (by omega))
  rw [h0, BitVec.xor_zero]
  exact (runTo_congr r 8 fun j hj => rb_bit c j hj)
theorem bitAt_cons (b : UInt8) (bs : List UInt8) (j : Nat) : bitAt (b :: bs) (8 + j) = bitAt bs j := by
  unfold bitAt
  rw [show (8 + j) / 8 = j / 8 + 1 by omega, show (8 + j) % 8 = j % 8 by omega]
  rfl
theorem bitAt_head (b : UInt8) (bs : List UInt8) {j : Nat} (h : j < 8) : bitAt (b :: bs) j = b.toNat.testBit j := by
  unfold bitAt
  rw [show j / 8 = 0 by omega, show j % 8 = j by omega]
  rfl
theorem runR_bits : ∀ (bs : List UInt8) (r : R), runR r bs = runTo (bitAt bs) r (8 * bs.length)
  | [], r => rfl
  | b :: bs, r => by
    rw [show 8 * (b :: bs).length = 8 + 8 * bs.length by simp; omega, runTo_add]
    rw [runTo_congr r 8 (fun j hj => bitAt_head b bs hj), ← trn_bits, show (fun j => bitAt (b :: bs) (8 + j)) = bitAt bs from funext (bitAt_cons b bs), ← runR_bits bs]
    rfl
def byteOf (s : R) (k : Nat) : UInt8 := UInt8.ofNat (s.toNat / 256 ^ k % 256)
def le4 (s : R) : List UInt8 := [byteOf s 0, byteOf s 1, byteOf s 2, byteOf s 3]
theorem byteOf_bit (s : R) (k j : Nat) (hj : j < 8) : (byteOf s k).toNat.testBit j = s.getLsbD (8 * k + j) := by
  unfold byteOf
  rw [u8_of_lt (Nat.mod_lt _ (by omega)), show (256 : Nat) ^ k = 2 ^ (8 * k) by rw [Nat.pow_mul], show (256 : Nat) = 2 ^ 8 from rfl, Nat.testBit_mod_two_pow, Nat.testBit_div_two_pow]
  simp [hj, BitVec.getLsbD, Nat.add_comm]
theorem le4_bit (s : R) (j : Nat) (hj : j < 32) : bitAt (le4 s) j = s.getLsbD j := by
  have h : ∀ k, k < 4 → (le4 s).getD k 0 = byteOf s k := by
    intro k hk
    rcases k with _ | _ | _ | _ | k <;> first | rfl | omega
  unfold bitAt
  rw [h _ (by omega), byteOf_bit s _ _ (by omega)]
  congr 1
  omega
theorem runR_le4 (r s : R) : runR r (le4 s) = stps 32 (r ^^^ s) := by
  rw [runR_bits, ← runTo_32 s r]
  exact runTo_congr r 32 fun j hj => le4_bit s j hj
def sealS (b : List UInt8) : List UInt8 := b ++ le4 (ofS b)
theorem sealS_len (b : List UInt8) : (sealS b).length = b.length + 4 := by simp [sealS, le4]
def residue : R := stps 32 (BitVec.allOnes 32)
theorem runR_seal (b : List UInt8) : runR (~~~ 0#32) (sealS b) = residue := by
  rw [sealS, runR_app, runR_le4, ofS, moreS]
  congr 1
  apply BitVec.eq_of_getLsbD_eq
  intro i hi
  rw [BitVec.getLsbD_xor, BitVec.getLsbD_not, BitVec.getLsbD_allOnes]
  simp [hi]

/-! ### bits turned within a window -/
def win (k : Nat) (t : R) (j : Nat) : Bool := decide (k ≤ j) && decide (j < k + 32) && t.getLsbD (j - k)
theorem win_head (k : Nat) (t : R) : runTo (win k t) 0#32 k = 0#32 := by
  refine (runTo_congr _ k fun j hj => ?_).trans (runTo_zero k)
  have : ¬ (k ≤ j) := by omega
  simp [win, this]
theorem win_run (k : Nat) (t : R) (m : Nat) : runTo (win k t) 0#32 (k + 32 + m) = stps (m + 32) t := by
  rw [runTo_add, runTo_add, win_head, stps_add]
  have h1 : runTo (fun j => win k t (k + j)) 0#32 32 = stps 32 t := by
    have := runTo_32 t 0#32
    rw [BitVec.zero_xor] at this
    rw [← this]
    exact runTo_congr _ 32 fun j hj => by
      simp [win, hj]
  rw [h1]
  generalize stps 32 t = x
  induction m with
  | zero => rfl
  | succ m ih =>
    rw [runTo, ih, stps]
    have : win k t (k + 32 + m) = false := by simp [win]; omega
    rw [this]
    simp [one]
theorem win_ne {k n : Nat} {t : R} (ht : t ≠ 0#32) (hk : k + 32 ≤ n) : runTo (win k t) 0#32 n ≠ 0#32 := by
  obtain ⟨m, rfl⟩ := Nat.exists_eq_add_of_le hk
  rw [win_run]
  exact stps_ne ht _
/-- Two texts of one length that part just within 32 bits side by side, somewhere, are not both sealed. -/
theorem turned {a b c d : List UInt8} {k : Nat} {t : R} (ha : a = sealS c) (hb : b = sealS d) (hl : a.length = b.length) (ht : t ≠ 0#32) (hk : k + 32 ≤ 8 * a.length)
    (hx : ∀ j, j < 8 * a.length → bitAt b j = (bitAt a j ^^ win k t j)) : False := by
  have h1 := runR_seal c
  have h2 := runR_seal d
  rw [← ha, runR_bits] at h1
  rw [← hb, runR_bits, ← hl] at h2
  have h3 := runTo_xor (bitAt a) (win k t) (~~~ 0#32) 0#32 (8 * a.length)
  rw [BitVec.xor_zero, ← runTo_congr _ _ hx, h2, h1] at h3
  refine win_ne ht hk ?_
  have h4 := congrArg (residue ^^^ ·) h3
  simp only [← BitVec.xor_assoc, BitVec.xor_self, BitVec.zero_xor] at h4
  exact h4.symm
end Go.Q
