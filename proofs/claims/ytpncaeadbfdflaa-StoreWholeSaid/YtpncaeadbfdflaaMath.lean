/- Plain functions and their facts: no program in sight. Conditions: none. -/
import Derived.Test.YtpncaeadbfdflaaCore6
set_option linter.unusedSimpArgs false
set_option linter.unusedVariables false
namespace Go.Q
/-! ### pack -/
def fitsS (width : Int) (n : Nat) : Bool := decide (1 ≤ width ∧ width ≤ 8 ∧ n < 256 ^ width.toNat)
theorem fdiv_pow (n k : Nat) : ((n : Int).fdiv (2 ^ k)) = ((n / 2 ^ k : Nat) : Int) := by
  rw [show ((2 : Int) ^ k) = ((2 ^ k : Nat) : Int) by simp]
  exact (Int.ofNat_fdiv n (2 ^ k)).symm ▸ rfl
theorem fits_end {width : Int} {n : Nat} {b : Bool} (h : (¬ (1 ≤ width) ∧ b = false) ∨ (¬ (width ≤ 8) ∧ b = false) ∨ (width = 8 ∧ n < 18446744073709551616 ∧ b = true) ∨
    (1 ≤ width ∧ width ≤ 8 ∧ b = decide ((n : Int).fdiv (2 ^ (min (8 * width).toNat IntKind.u64.bits)) = 0))) : b = fitsS width n := by
  unfold fitsS
  rcases h with ⟨h1, rfl⟩ | ⟨h1, rfl⟩ | ⟨rfl, h2, rfl⟩ | ⟨h1, h2, rfl⟩
  · symm; simp; omega
  · symm; simp; omega
  · symm; simp; omega
  · obtain ⟨k, rfl⟩ := Int.eq_ofNat_of_zero_le (show 0 ≤ width by omega)
    have h3 : min (8 * (k : Int)).toNat IntKind.u64.bits = 8 * k := by simp [IntKind.bits]; omega
    rw [h3, fdiv_pow]
    have h4 : (256 : Nat) ^ k = 2 ^ (8 * k) := by rw [Nat.pow_mul]
    rw [Bool.eq_iff_iff]
    simp only [decide_eq_true_eq, Int.toNat_natCast]
    rw [h4]
    have hp : 0 < 2 ^ (8 * k) := Nat.pow_pos (by omega)
    constructor
    · intro h
      refine ⟨by omega, by omega, ?_⟩
      have : n / 2 ^ (8 * k) = 0 := by exact_mod_cast h
      exact (Nat.div_eq_zero_iff_lt hp).1 this
    · intro h
      rw [(Nat.div_eq_zero_iff_lt hp).2 h.2.2]
      rfl
end Go.Q
namespace Go.Q
/-- A number in so many bytes, the highest first. -/
def be : Nat → Nat → List UInt8
  | 0, _ => []
  | k + 1, n => be k (n / 256) ++ [UInt8.ofNat (n % 256)]
theorem be_len : ∀ (k n : Nat), (be k n).length = k
  | 0, _ => rfl
  | k + 1, n => by simp [be, be_len k]
def putS (b : List UInt8) (width : Int) (n : Nat) : List UInt8 × Int := if fitsS width n = true then (b ++ be width.toNat n, 0) else ([], 1)
theorem putS_yes {b : List UInt8} {width : Int} {n : Nat} (h : fitsS width n = true) : putS b width n = (b ++ be width.toNat n, 0) := by simp [putS, h]
theorem putS_no {b : List UInt8} {width : Int} {n : Nat} (h : fitsS width n = false) : putS b width n = ([], 1) := by simp [putS, h]
theorem fits_bounds {width : Int} {n : Nat} (h : fitsS width n = true) : 1 ≤ width ∧ width ≤ 8 ∧ n < 256 ^ width.toNat := by simpa [fitsS] using h
theorem u8_toNat (x : Nat) : ((UInt8.ofNat (x % 256)).toNat : Int) = ((x % 256 : Nat) : Int) := by simp
/-- The byte that Put takes out of a number. -/
theorem put_byte {n width i : Nat} (hi : i < width) (hw : width ≤ 8) : IntKind.u8.wrap ((n : Int).fdiv (2 ^ (min (8 * ((width : Int) - 1 - (i : Int))).toNat IntKind.u64.bits))) = ((UInt8.ofNat (n / 256 ^ (width - 1 - i) % 256)).toNat : Int) := by
  have h3 : min (8 * ((width : Int) - 1 - (i : Int))).toNat IntKind.u64.bits = 8 * (width - 1 - i) := by simp [IntKind.bits]; omega
  rw [h3, fdiv_pow, u8_toNat, IntKind.wrap_u8, show (256 : Nat) ^ (width - 1 - i) = 2 ^ (8 * (width - 1 - i)) by rw [Nat.pow_mul]]
  omega
theorem be_step {n width i : Nat} (hi : i < width) : be i (n / 256 ^ (width - i)) ++ [UInt8.ofNat (n / 256 ^ (width - 1 - i) % 256)] = be (i + 1) (n / 256 ^ (width - (i + 1))) := by
  have e : width - i = (width - 1 - i) + 1 := by omega
  have e2 : width - (i + 1) = width - 1 - i := by omega
  simp only [be, e2]
  rw [Nat.div_div_eq_div_mul, e, Nat.pow_succ]
end Go.Q
namespace Go.Q
/-- The number that bytes tell, the highest first. -/
def unbe (l : List UInt8) : Nat := l.foldl (fun n b => n * 256 + b.toNat) 0
theorem unbe_snoc (l : List UInt8) (b : UInt8) : unbe (l ++ [b]) = unbe l * 256 + b.toNat := by simp [unbe]
theorem unbe_from (l : List UInt8) : ∀ n, l.foldl (fun n b => n * 256 + b.toNat) n < (n + 1) * 256 ^ l.length := by
  induction l with
  | nil => intro n; simp
  | cons b l ih =>
    intro n
    simp only [List.foldl_cons, List.length_cons]
    have h := ih (n * 256 + b.toNat)
    have hb := b.toNat_lt
    have h2 : (n * 256 + b.toNat + 1) * 256 ^ l.length ≤ ((n + 1) * 256) * 256 ^ l.length := Nat.mul_le_mul_right _ (by omega)
    rw [Nat.pow_succ, Nat.mul_comm (256 ^ l.length) 256, ← Nat.mul_assoc]
    omega
theorem unbe_lt (l : List UInt8) : unbe l < 256 ^ l.length := by
  have := unbe_from l 0
  simp only [Nat.zero_add, Nat.one_mul] at this
  exact this
def takeS (b : List UInt8) (at_ width : Int) : Nat × Int :=
  if width < 1 ∨ 8 < width ∨ at_ < 0 then (0, 1)
  else if (b.length : Int) < at_ ∨ (b.length : Int) - at_ < width then (0, 4)
  else (unbe ((b.drop at_.toNat).take width.toNat), 0)
theorem take_succ_getD (l : List UInt8) (i : Nat) (h : i < l.length) : l.take (i + 1) = l.take i ++ [l.getD i 0] := by
  rw [List.take_add_one, List.getElem?_eq_getElem h]
  simp [List.getD, List.getElem?_eq_getElem h]
theorem or_disjoint (a c : Nat) (hc : c < 256) : a * 256 ||| c = a * 256 + c := by
  have := Nat.two_pow_add_eq_or_of_lt (i := 8) (b := c) (by omega) a
  rw [show a * 256 = 2 ^ 8 * a by omega]
  exact this.symm
theorem take_or {a c : Nat} (ha : a * 256 < 18446744073709551616) (hc : c < 256) : IntKind.u64.wrap ((BitVec.ofInt IntKind.u64.bits ((a * 256 : Nat) : Int) ||| BitVec.ofInt IntKind.u64.bits ((c : Nat) : Int)).toNat : Int) = ((a * 256 + c : Nat) : Int) := by
  show IntKind.u64.wrap ((BitVec.ofInt 64 ((a * 256 : Nat) : Int) ||| BitVec.ofInt 64 ((c : Nat) : Int)).toNat : Int) = _
  rw [BitVec.ofInt_natCast, BitVec.ofInt_natCast, BitVec.toNat_or, BitVec.toNat_ofNat, BitVec.toNat_ofNat, Nat.mod_eq_of_lt (by omega), Nat.mod_eq_of_lt (by omega), or_disjoint a c hc]
  exact IntWalk.u64_in _ (by omega)
theorem take_shl {a : Nat} (ha : a * 256 < 18446744073709551616) : IntKind.u64.wrap ((a : Int) * 2 ^ (min (8 : Int).toNat IntKind.u64.bits)) = ((a * 256 : Nat) : Int) := by
  have : (min (8 : Int).toNat IntKind.u64.bits) = 8 := by simp [IntKind.bits]
  rw [this]
  have e : (a : Int) * 2 ^ 8 = ((a * 256 : Nat) : Int) := by omega
  rw [e]
  exact IntWalk.u64_in _ (by omega)
end Go.Q
namespace Go.Q
theorem takeS_arg {b : List UInt8} {a w : Int} (h : w < 1 ∨ 8 < w ∨ a < 0) : takeS b a w = (0, 1) := by simp only [takeS, if_pos h]
theorem takeS_short {b : List UInt8} {a w : Int} (h : ¬ (w < 1 ∨ 8 < w ∨ a < 0)) (h2 : (b.length : Int) < a ∨ (b.length : Int) - a < w) : takeS b a w = (0, 4) := by simp only [takeS, if_neg h, if_pos h2]
theorem takeS_yes {b : List UInt8} {a w : Nat} (h1 : 1 ≤ w) (h2 : w ≤ 8) (h3 : a ≤ b.length) (h4 : w ≤ b.length - a) (_ : True) : takeS b a w = (unbe ((b.drop a).take w), 0) := by
  simp only [takeS]
  rw [if_neg (by omega), if_neg (by omega)]
  simp
end Go.Q
namespace Go.Q
def putTextS (b s : List UInt8) : List UInt8 × Int := if 255 < s.length then ([], 1) else (b ++ [UInt8.ofNat (s.length % 256)] ++ s, 0)
theorem putTextS_no {b s : List UInt8} (h : 255 < s.length) : putTextS b s = ([], 1) := by simp [putTextS, h]
theorem putTextS_yes {b s : List UInt8} (h : ¬ 255 < s.length) : putTextS b s = (b ++ [UInt8.ofNat (s.length % 256)] ++ s, 0) := by simp only [putTextS, if_neg h]
theorem len_byte {n : Nat} (h : n ≤ 255) : IntKind.u8.wrap (n : Int) = ((UInt8.ofNat (n % 256)).toNat : Int) := by
  rw [u8_toNat, IntKind.wrap_u8]
  omega
def takeTextS (b : List UInt8) (at_ : Int) : List UInt8 × Int × Int :=
  if (takeS b at_ 1).2 ≠ 0 then ([], 0, (takeS b at_ 1).2)
  else if (b.length : Int) - (at_ + 1) < (takeS b at_ 1).1 then ([], 0, 4)
  else ((b.drop (at_.toNat + 1)).take (takeS b at_ 1).1, at_ + 1 + (takeS b at_ 1).1, 0)
theorem takeTextS_err {b : List UInt8} {a : Int} (h : (takeS b a 1).2 ≠ 0) : takeTextS b a = ([], 0, (takeS b a 1).2) := by simp only [takeTextS, if_pos h]
theorem takeS_one {b : List UInt8} {a : Int} (h : (takeS b a 1).2 = 0) : 0 ≤ a ∧ a < b.length ∧ (takeS b a 1).1 = (b.getD a.toNat 0).toNat := by
  unfold takeS at h ⊢
  by_cases h1 : (1 : Int) < 1 ∨ 8 < (1 : Int) ∨ a < 0
  · rw [if_pos h1] at h; cases h
  · rw [if_neg h1] at h ⊢
    by_cases h2 : (b.length : Int) < a ∨ (b.length : Int) - a < 1
    · rw [if_pos h2] at h; cases h
    · rw [if_neg h2]
      obtain ⟨k, rfl⟩ := Int.eq_ofNat_of_zero_le (show 0 ≤ a by omega)
      refine ⟨by omega, by omega, ?_⟩
      have hk : k < b.length := by omega
      simp only [Int.toNat_natCast, Int.toNat_one]
      have : (b.drop k).take 1 = [b.getD k 0] := by
        rw [List.drop_eq_getElem_cons hk, List.take_succ_cons, List.take_zero]
        simp [List.getD, List.getElem?_eq_getElem hk]
      rw [this]
      simp [unbe]
theorem takeTextS_short {b : List UInt8} {a : Nat} (h : (takeS b (a : Int) 1).2 = 0) (h2 : (b.length : Int) - ((a : Int) + 1) < ((b.getD a 0).toNat : Int)) : takeTextS b (a : Int) = ([], 0, 4) := by
  obtain ⟨_, _, h3⟩ := takeS_one h
  simp only [Int.toNat_natCast] at h3
  simp only [takeTextS, h, h3]
  rw [if_neg (by simp), if_pos h2]
theorem takeTextS_yes {b : List UInt8} {a : Nat} (h : (takeS b (a : Int) 1).2 = 0) (h2 : ¬ ((b.length : Int) - ((a : Int) + 1) < ((b.getD a 0).toNat : Int))) (_ : True = True) :
    takeTextS b (a : Int) = ((b.drop (a + 1)).take (b.getD a 0).toNat, (a : Int) + 1 + ((b.getD a 0).toNat : Int), 0) := by
  obtain ⟨_, _, h3⟩ := takeS_one h
  simp only [Int.toNat_natCast] at h3
  simp only [takeTextS, h, h3]
  rw [if_neg (by simp), if_neg h2]
  simp
end Go.Q
namespace Go.Q
theorem quo256 {a : Nat} (h : a < 18446744073709551616) : IntKind.u64.wrap ((a : Int).tdiv 256) = ((a / 256 : Nat) : Int) := by
  rw [Int.tdiv_eq_ediv_of_nonneg (by omega)]
  have e : (a : Int) / 256 = ((a / 256 : Nat) : Int) := by omega
  rw [e]
  exact IntWalk.u64_in _ (by omega)
theorem rem256 {a : Nat} : (a : Int).tmod 256 = ((a % 256 : Nat) : Int) := by
  rw [Int.tmod_eq_emod_of_nonneg (by omega)]
  omega
theorem conv_u8 {a : Nat} : IntKind.u8.wrap ((a % 256 : Nat) : Int) = ((UInt8.ofNat (a % 256)).toNat : Int) := by
  rw [u8_toNat, IntKind.wrap_u8]
  omega
theorem fitsS_no {width : Int} {n : Nat} (h : width < 1 ∨ 8 < width) : fitsS width n = false := by
  unfold fitsS
  simp
  omega
theorem fitsS_loop {wd n : Nat} (h1 : 1 ≤ wd) (h2 : wd ≤ 8) : fitsS (wd : Int) n = decide (((n / 256 ^ wd : Nat) : Int) = 0) := by
  unfold fitsS
  rw [Bool.eq_iff_iff]
  have hp : 0 < 256 ^ wd := Nat.pow_pos (by omega)
  simp only [decide_eq_true_eq, Int.toNat_natCast]
  constructor
  · intro h
    rw [(Nat.div_eq_zero_iff_lt hp).2 h.2.2]
    rfl
  · intro h
    refine ⟨by omega, by omega, (Nat.div_eq_zero_iff_lt hp).1 (by omega)⟩
theorem be_low : ∀ (i n : Nat), be (i + 1) n = UInt8.ofNat (n / 256 ^ i % 256) :: be i n
  | 0, n => by simp [be]
  | i + 1, n => by
    rw [be, be_low i (n / 256), be]
    rw [Nat.div_div_eq_div_mul, Nat.pow_succ, Nat.mul_comm 256]
    simp
end Go.Q
namespace Go.Q
theorem cut_getD (bs : List UInt8) (a wd i : Nat) (h : i < wd) : ((bs.drop a).take wd).getD i 0 = bs.getD ((a : Int) + (i : Int)).toNat 0 := by
  have e : ((a : Int) + (i : Int)).toNat = a + i := by omega
  rw [e]
  simp [List.getD, List.getElem?_take, h, List.getElem?_drop]
end Go.Q
namespace Go.Q
theorem takeS_at {b : List UInt8} {a : Nat} (h : a < b.length) : (takeS b (a : Int) 1).2 = 0 := by
  unfold takeS
  rw [if_neg (by omega), if_neg (by omega)]
theorem takeTextS_err1 {b : List UInt8} {a : Int} (h : a < 0) : takeTextS b a = ([], 0, 1) := by
  have h1 : takeS b a 1 = (0, 1) := takeS_arg (by omega)
  rw [takeTextS_err (by rw [h1]; decide), h1]
theorem takeTextS_err4 {b : List UInt8} {a : Int} (h : ¬ a < 0) (h2 : (b.length : Int) ≤ a) : takeTextS b a = ([], 0, 4) := by
  have h1 : takeS b a 1 = (0, 4) := takeS_short (by omega) (by omega)
  rw [takeTextS_err (by rw [h1]; decide), h1]
end Go.Q
