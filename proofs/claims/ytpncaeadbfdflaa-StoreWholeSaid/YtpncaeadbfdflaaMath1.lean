/- Plain facts for the statements of layer 1. Conditions: none. -/
import Derived.Test.YtpncaeadbfdflaaMath
import Derived.Test.YtpncaeadbfdflaaCore7
set_option linter.unusedSimpArgs false
namespace Go.Q
theorem u8_of_lt {x : Nat} (h : x < 256) : (UInt8.ofNat x).toNat = x := by simp; omega
/-- What be laid, unbe tells. -/
theorem unbe_be : ∀ (k n : Nat), n < 256 ^ k → unbe (be k n) = n
  | 0, n, h => by simp at h; subst h; rfl
  | k + 1, n, h => by
    have h1 : n / 256 < 256 ^ k := by rw [Nat.pow_succ] at h; exact Nat.div_lt_of_lt_mul (by omega)
    rw [be, unbe_snoc, unbe_be k _ h1]
    simp
    omega
theorem takeS_back {b x : List UInt8} {wd n : Nat} (h : fitsS (wd : Int) n = true) : takeS (b ++ be wd n ++ x) (b.length : Int) (wd : Int) = (n, 0) := by
  obtain ⟨h1, h2, h3⟩ := fits_bounds h
  rw [takeS_yes (by omega) (by omega) (by simp) (by simp [be_len]) trivial]
  rw [List.append_assoc, List.drop_left, List.take_left' (be_len _ _), unbe_be _ _ (by simpa using h3)]
theorem takeS_cut {bs : List UInt8} {a wd : Nat} (h1 : 1 ≤ wd) (h2 : wd ≤ 8) (h3 : bs.length < a + wd) : (takeS bs (a : Int) (wd : Int)).2 = 4 := by
  rw [takeS_short (by omega) (by omega)]
theorem putS_err {b : List UInt8} {width : Int} {n : Nat} (h : (putS b width n).2 ≠ 0) : fitsS width n = false := by
  cases hf : fitsS width n
  · rfl
  · rw [putS_yes hf] at h; exact absurd rfl h
theorem putS_ok {b : List UInt8} {width : Int} {n : Nat} (h : (putS b width n).2 = 0) : fitsS width n = true := by
  cases hf : fitsS width n
  · rw [putS_no hf] at h; cases h
  · rfl
theorem putTextS_ok {b s : List UInt8} (h : (putTextS b s).2 = 0) : s.length ≤ 255 := by
  unfold putTextS at h
  split at h
  · cases h
  · omega
theorem takeTextS_back {b s x : List UInt8} (h : s.length ≤ 255) : takeTextS (b ++ [UInt8.ofNat (s.length % 256)] ++ s ++ x) (b.length : Int) = (s, ((b ++ [UInt8.ofNat (s.length % 256)] ++ s).length : Int), 0) := by
  have hg : (b ++ [UInt8.ofNat (s.length % 256)] ++ s ++ x).getD b.length 0 = UInt8.ofNat (s.length % 256) := by
    simp [List.getD]
  have hn : (UInt8.ofNat (s.length % 256)).toNat = s.length := by rw [u8_of_lt (by omega)]; omega
  rw [takeTextS_yes (takeS_at (by simp)) (by rw [hg, hn]; simp; omega) rfl, hg, hn]
  congr 1
  · rw [show b ++ [UInt8.ofNat (s.length % 256)] ++ s ++ x = (b ++ [UInt8.ofNat (s.length % 256)]) ++ (s ++ x) by simp, List.drop_left' (by simp), List.take_left' rfl]
  · simp; omega
theorem be_less : ∀ (k n m : Nat), Op.bytesLess (be k n) (be k m) = decide (n % 256 ^ k < m % 256 ^ k)
  | 0, n, m => by simp [be, Op.bytesLess, Nat.mod_one]
  | k + 1, n, m => by
    rw [be_low, be_low, Op.bytesLess, be_less k n m]
    have hp : 0 < 256 ^ k := Nat.pos_of_ne_zero (by simp)
    have e : ∀ x, x % 256 ^ (k + 1) = (x / 256 ^ k % 256) * 256 ^ k + x % 256 ^ k := fun x => by
      rw [Nat.pow_succ, Nat.mod_mul, Nat.mul_comm, Nat.add_comm]
    rw [e n, e m]
    have hn := Nat.mod_lt n hp
    have hm := Nat.mod_lt m hp
    generalize n % 256 ^ k = n0 at *
    generalize m % 256 ^ k = m0 at *
    generalize ha : n / 256 ^ k % 256 = a
    generalize hb : m / 256 ^ k % 256 = b
    have ha' : a < 256 := by omega
    have hb' : b < 256 := by omega
    generalize 256 ^ k = p at *
    have hlt : (UInt8.ofNat a < UInt8.ofNat b) ↔ a < b := by rw [UInt8.lt_iff_toNat_lt, u8_of_lt ha', u8_of_lt hb']
    have heq : (UInt8.ofNat a == UInt8.ofNat b) = decide (a = b) := by
      rw [Bool.eq_iff_iff]
      simp only [beq_iff_eq, decide_eq_true_eq]
      constructor
      · intro h; have := congrArg UInt8.toNat h; rwa [u8_of_lt ha', u8_of_lt hb'] at this
      · intro h; rw [h]
    rw [heq, Bool.eq_iff_iff]
    simp only [Bool.or_eq_true, Bool.and_eq_true, decide_eq_true_eq, hlt]
    constructor
    · rintro (h | ⟨rfl, h⟩)
      · have : (a + 1) * p ≤ b * p := Nat.mul_le_mul_right _ h
        rw [Nat.add_mul] at this
        omega
      · omega
    · intro h
      rcases Nat.lt_trichotomy a b with h1 | h1 | h1
      · exact .inl h1
      · subst h1; exact .inr ⟨rfl, by omega⟩
      · have : (b + 1) * p ≤ a * p := Nat.mul_le_mul_right _ h1
        rw [Nat.add_mul] at this
        omega
theorem orders {wd n m : Nat} (h : fitsS (wd : Int) n = true) (h2 : fitsS (wd : Int) m = true) : Op.bytesLess (be wd n) (be wd m) = decide (n < m) := by
  obtain ⟨_, _, h3⟩ := fits_bounds h
  obtain ⟨_, _, h4⟩ := fits_bounds h2
  rw [be_less, Nat.mod_eq_of_lt (by simpa using h3), Nat.mod_eq_of_lt (by simpa using h4)]
theorem set_upto {xs : List UInt8} {g : Nat → UInt8} {n i : Nat} {v : UInt8} (h1 : xs.length = n) (hi : i < n) (h2 : ∀ j, j < i → xs.getD j 0 = g j) (hv : v = g i := by rfl) {k : Nat} (hk : k = i := by rfl) :
    ∀ j, j < i + 1 → (xs.set k v).getD j 0 = g j := by
  subst hk
  intro j hj
  by_cases h : j = k
  · subst h
    simp only [List.getD, List.getElem?_set]
    rw [if_pos trivial, if_pos (by omega)]
    exact hv
  · rw [List.getD, List.getElem?_set_ne (by omega)]
    exact h2 j (by omega)
theorem addu64 (a b : Nat) : IntKind.u64.wrap ((a : Int) + (b : Int)) = (((a + b) % 18446744073709551616 : Nat) : Int) := by rw [IntKind.wrap_u64]; omega
theorem pad_getD {b : List UInt8} {k i : Nat} (h : b.length ≤ i) : (b ++ List.replicate k 0).getD i 0 = 0 := by
  rw [List.getD, List.getElem?_append_right h, List.getElem?_replicate]
  split <;> rfl
end Go.Q
