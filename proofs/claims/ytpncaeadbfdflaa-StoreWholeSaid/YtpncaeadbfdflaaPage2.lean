/- Facts for the walks of layer 4. Conditions: none. -/
import Derived.Test.YtpncaeadbfdflaaPageV
set_option linter.unusedSimpArgs false
set_option linter.unusedVariables false
namespace Go.Q
theorem fits8 {n : Nat} (h : n < 18446744073709551616) : fitsS 8 n = true := by simp [fitsS]; omega
def imgW (lsn : Nat) (t : List UInt8) : Nat → List UInt8
  | 0 => []
  | i + 1 => imgW lsn t i ++ be 8 lsn ++ (t.drop (i * 120)).take 120
theorem imgW_len {lsn : Nat} {t : List UInt8} (ht : t.length = 240) : ∀ {i : Nat}, i ≤ 2 → (imgW lsn t i).length = 128 * i
  | 0, _ => rfl
  | i + 1, h => by
    have := imgW_len (lsn := lsn) ht (i := i) (by omega)
    simp only [imgW, List.length_append, be_len, List.length_take, List.length_drop]
    omega
theorem imgW_end {id : Nat} {p : PG} (ht : (taleS id p).length = 240) : imgW p.lsn (taleS id p) 2 = imageS id p := by
  simp only [imgW, imageS, List.nil_append, Nat.zero_mul, List.drop_zero, Nat.one_mul, List.append_assoc]
  rw [List.take_of_length_le (l := (taleS id p).drop 120) (by rw [List.length_drop]; omega)]
theorem or_bytes {a c : Nat} (ha : a < 256) (hc : c < 256) : IntKind.i64.wrap ((BitVec.ofInt IntKind.i64.bits ((a * 256 : Nat) : Int) ||| BitVec.ofInt IntKind.i64.bits ((c : Nat) : Int)).toNat : Int) = ((a * 256 + c : Nat) : Int) := by
  have h : (BitVec.ofInt 64 ((a * 256 : Nat) : Int) ||| BitVec.ofInt 64 ((c : Nat) : Int)).toNat = a * 256 + c := by
    rw [BitVec.ofInt_natCast, BitVec.ofInt_natCast, ← BitVec.ofNat_or, or_disjoint a c hc, BitVec.toNat_ofNat, Nat.mod_eq_of_lt (by omega)]
  exact (congrArg (fun x : Nat => IntKind.i64.wrap (x : Int)) h).trans (IntWalk.i64_in _ (by omega))
theorem u8i (b : UInt8) : IntKind.i64.wrap (b.toNat : Int) = ((b.toNat : Nat) : Int) := IntWalk.i64_in _ (by have := b.toNat_lt; omega)
theorem shl_byte {a : Nat} (ha : a < 256) : IntKind.i64.wrap ((a : Int) * 2 ^ (min (8 : Int).toNat IntKind.i64.bits)) = ((a * 256 : Nat) : Int) := by
  show IntKind.i64.wrap ((a : Int) * 2 ^ 8) = _
  rw [IntWalk.i64_in _ (by omega)]
  omega
theorem mid_cut {b : List UInt8} (h : b.length = 256) : (b.drop 8).take 120 ++ (b.drop 136).take 120 = midS b := by
  rw [midS, List.drop_take, List.take_of_length_le (l := b.drop 136) (by rw [List.length_drop]; omega)]
theorem mid_str {b : List UInt8} (h : b.length = 256) : (b.take 128).drop 8 ++ (b.take b.length).drop 136 = midS b := by
  rw [List.take_length, midS]
theorem torn_end {b : List UInt8} {x : Bool} (h : (¬ b.length = 256 ∧ x = false) ∨ (b.length = 256 ∧ x = !((b.drop 0).take 8 == (b.drop 128).take 8))) : x = tornS b := by
  rcases h with ⟨h1, rfl⟩ | ⟨h1, rfl⟩
  · simp [tornS, h1]
  · simp only [tornS, h1, decide_true, Bool.true_and, List.drop_zero]
    rw [List.drop_take]
theorem torn_ends {b : List UInt8} {x : Bool} (h : (¬ b.length = 256 ∧ x = false) ∨ (b.length = 256 ∧ x = !((b.take 8).drop 0 == (b.take 136).drop 128))) : x = tornS b := by
  rcases h with ⟨h1, rfl⟩ | ⟨h1, rfl⟩
  · simp [tornS, h1]
  · simp only [tornS, h1, decide_true, Bool.true_and, List.drop_zero]
theorem stamp_no {b : List UInt8} (h : ¬ b.length = 256) : stampS b = (0, false) := by rw [stampS, if_pos (.inl h)]
theorem stamp_torn {b : List UInt8} (h : tornS b = true) : stampS b = (0, false) := by rw [stampS, if_pos (.inr h)]
theorem stamp_yes {b : List UInt8} (h : b.length = 256) (ht : tornS b = false) : stampS b = ((takeS b 0 8).1, true) ∧ (takeS b 0 8).2 = 0 ∧ (takeS b 0 8).1 < 18446744073709551616 := by
  have := takeS_yes (b := b) (a := 0) (w := 8) (by omega) (by omega) (by omega) (by omega) trivial
  rw [show takeS b 0 8 = takeS b ((0 : Nat) : Int) ((8 : Nat) : Int) from rfl, this, stampS_not h ht]
  refine ⟨rfl, rfl, ?_⟩
  have h2 := unbe_lt ((b.drop 0).take 8)
  rw [List.length_take, List.length_drop, h] at h2
  exact h2
/-- What has been told of a tale so far. -/
structure TI (t : List UInt8) (i at_ : Nat) (l : List CL) : Prop where
  len : l.length = 8
  ok : ∀ c ∈ l, c.2.length ≤ 20
  lo : 10 ≤ at_
  hi : at_ ≤ 10 + 20 * i
  rest : l.drop i = List.replicate (8 - i) noCell
  inv : told0 ((t.drop 2).take 8) (t.drop 10) = (told0 (((t.drop 2).take 8).drop i) (t.drop at_)).map (l.take i ++ ·)
theorem TI.start (t : List UInt8) : TI t 0 10 noPg.cells := ⟨rfl, fun c hc => by simp [noPg, noCell] at hc; simp [hc], Nat.le_refl _, Nat.le_refl _, rfl, by simp⟩
theorem TI.pok {t : List UInt8} {i at_ : Nat} {l : List CL} (h : TI t i at_ l) : POk ⟨0, l⟩ := ⟨h.len, (by show 0 < _; omega), fun c hc => by have := h.ok c hc; omega⟩
theorem ns_drop {t : List UInt8} {i : Nat} (hl : 236 ≤ t.length) (hi : i < 8) : ((t.drop 2).take 8).drop i = t.getD (2 + i) 0 :: ((t.drop 2).take 8).drop (i + 1) := by
  have h1 : i < ((t.drop 2).take 8).length := by simp only [List.length_take, List.length_drop]; omega
  rw [List.drop_eq_getElem_cons h1]
  congr 1
  simp only [List.getElem_take, List.getElem_drop, List.getD]
  rw [List.getElem?_eq_getElem (by omega)]
  rfl
theorem TI.at_i {t : List UInt8} {i at_ : Nat} {l : List CL} (h : TI t i at_ l) (hi : i < 8) : l[i]? = some noCell := by
  have h1 := h.rest
  rw [show 8 - i = (8 - (i + 1)) + 1 by omega, List.replicate_succ] at h1
  have h2 : (l.drop i)[0]? = some noCell := by rw [h1]; rfl
  rwa [List.getElem?_drop, Nat.add_zero] at h2
theorem TI.rest1 {t : List UInt8} {i at_ : Nat} {l : List CL} (h : TI t i at_ l) (hi : i < 8) : l.drop (i + 1) = List.replicate (8 - (i + 1)) noCell := by
  have h1 := h.rest
  rw [show 8 - i = (8 - (i + 1)) + 1 by omega, List.replicate_succ] at h1
  have h2 : (l.drop i).drop 1 = List.replicate (8 - (i + 1)) noCell := by rw [h1]; rfl
  rwa [List.drop_drop] at h2
theorem TI.skip {t : List UInt8} {i at_ : Nat} {l : List CL} (h : TI t i at_ l) (hl : 236 ≤ t.length) (hi : i < 8) (hn : t.getD (2 + i) 0 = 255) : TI t (i + 1) at_ l := by
  refine ⟨h.len, h.ok, h.lo, by have := h.hi; omega, h.rest1 hi, ?_⟩
  rw [h.inv, ns_drop hl hi, told0, if_pos hn, Option.map_map]
  congr 1
  funext r
  simp only [Function.comp]
  rw [List.take_add_one, h.at_i hi]
  simp
theorem TI.put {t : List UInt8} {i at_ : Nat} {l : List CL} (h : TI t i at_ l) (hl : 236 ≤ t.length) (hi : i < 8) (hn : ¬ t.getD (2 + i) 0 = 255) (hk : ¬ 20 < (t.getD (2 + i) 0).toNat) :
    TI t (i + 1) (at_ + (t.getD (2 + i) 0).toNat) (l.set i (true, (t.drop at_).take (t.getD (2 + i) 0).toNat)) := by
  have h8 := h.len
  refine ⟨by simp [h8], fun c hc => ?_, by have := h.lo; omega, by have := h.hi; omega, ?_, ?_⟩
  · rcases List.mem_or_eq_of_mem_set hc with hc | rfl
    · exact h.ok c hc
    · simp only [List.length_take]; omega
  · rw [List.drop_set_of_lt (by omega)]
    exact h.rest1 hi
  · rw [h.inv, ns_drop hl hi, told0, if_neg hn, if_neg hk, Option.map_map, List.drop_drop]
    congr 1
    funext r
    simp only [Function.comp]
    rw [List.take_add_one, List.getElem?_set, if_pos rfl, if_pos (by omega), List.take_set_of_le (Nat.le_refl _)]
    simp
theorem TI.big {t : List UInt8} {i at_ : Nat} {l : List CL} (h : TI t i at_ l) (hl : 236 ≤ t.length) (hi : i < 8) (hn : ¬ t.getD (2 + i) 0 = 255) (hk : 20 < (t.getD (2 + i) 0).toNat) : told0 ((t.drop 2).take 8) (t.drop 10) = none := by
  rw [h.inv, ns_drop hl hi, told0, if_neg hn, if_pos hk]
  rfl
theorem TI.fin {t : List UInt8} {at_ : Nat} {l : List CL} (h : TI t 8 at_ l) : told0 ((t.drop 2).take 8) (t.drop 10) = if (t.drop at_).all (· == 0) = true then some l else none := by
  rw [h.inv, List.drop_eq_nil_of_le (by simp only [List.length_take]; omega), told0]
  split
  · simp only [Option.map_some, List.append_nil]
    rw [List.take_of_length_le (Nat.le_of_eq h.len)]
  · rfl
theorem toldS_no {id : Int} {t : List UInt8} (h : ¬ (((t.getD 0 0).toNat * 256 + (t.getD 1 0).toNat : Nat) : Int) = id) : toldS id t = none := by
  rw [toldS, if_pos (by omega)]
theorem toldS_yes {id : Int} {t : List UInt8} (h : (((t.getD 0 0).toNat * 256 + (t.getD 1 0).toNat : Nat) : Int) = id) : toldS id t = told0 ((t.drop 2).take 8) (t.drop 10) := by
  rw [toldS, if_neg (by omega)]
theorem u255 {b : UInt8} (h : (b.toNat : Int) = 255) : b = 255 := UInt8.toNat_inj.1 (by simp; omega)
theorem u255n {b : UInt8} (h : ¬ (b.toNat : Int) = 255) : ¬ b = 255 := fun e => h (by rw [e]; rfl)
theorem u0n {b : UInt8} (h : ¬ (b.toNat : Int) = 0) : ¬ b = 0 := fun e => h (by rw [e]; rfl)
theorem u0 {b : UInt8} (h : (b.toNat : Int) = 0) : b = 0 := UInt8.toNat_inj.1 (by simp; omega)
theorem all0 {l : List UInt8} (h : ∀ x ∈ l, x = 0) : l.all (· == 0) = true := List.all_eq_true.2 fun b hb => by simp [h b hb]
theorem not_all0 {l : List UInt8} {j : Nat} (hj : j < l.length) (h : ¬ l.getD j 0 = 0) : ¬ l.all (· == 0) = true := by
  intro h2
  have := List.all_eq_true.1 h2 (l.getD j 0) (by simp only [List.getD, List.getElem?_eq_getElem hj, Option.getD_some]; exact List.getElem_mem _)
  exact h (by simpa using this)
theorem all_snocD {q : UInt8 → Prop} {l : List UInt8} {i : Nat} (hi : i < l.length) (h1 : ∀ x ∈ l.take i, q x) (h2 : q (l.getD i 0)) : ∀ x ∈ l.take (i + 1), q x := by
  refine all_snoc (a := l.getD i 0) ?_ h1 h2
  simp only [List.getD, List.getElem?_eq_getElem hi, Option.getD_some]
/-! ### the document's reading -/
structure PI (t : List UInt8) (i at_ : Nat) (l : List CL) : Prop where
  len : l.length = 8
  ok : ∀ c ∈ l, c.2.length ≤ 20
  lo : 10 ≤ at_
  hi : at_ ≤ 10 + 20 * i
  rest : l.drop i = List.replicate (8 - i) noCell
  inv : parse0 ((t.drop 2).take 8) (t.drop 10) = (parse0 (((t.drop 2).take 8).drop i) (t.drop at_)).map (l.take i ++ ·)
theorem PI.start (t : List UInt8) : PI t 0 10 noPg.cells := ⟨rfl, fun c hc => by simp [noPg, noCell] at hc; simp [hc], Nat.le_refl _, Nat.le_refl _, rfl, by simp⟩
theorem PI.at_i {t : List UInt8} {i at_ : Nat} {l : List CL} (h : PI t i at_ l) (hi : i < 8) : l[i]? = some noCell := by
  have h1 := h.rest
  rw [show 8 - i = (8 - (i + 1)) + 1 by omega, List.replicate_succ] at h1
  have h2 : (l.drop i)[0]? = some noCell := by rw [h1]; rfl
  rwa [List.getElem?_drop, Nat.add_zero] at h2
theorem PI.rest1 {t : List UInt8} {i at_ : Nat} {l : List CL} (h : PI t i at_ l) (hi : i < 8) : l.drop (i + 1) = List.replicate (8 - (i + 1)) noCell := by
  have h1 := h.rest
  rw [show 8 - i = (8 - (i + 1)) + 1 by omega, List.replicate_succ] at h1
  have h2 : (l.drop i).drop 1 = List.replicate (8 - (i + 1)) noCell := by rw [h1]; rfl
  rwa [List.drop_drop] at h2
theorem PI.skip {t : List UInt8} {i at_ : Nat} {l : List CL} (h : PI t i at_ l) (hl : 236 ≤ t.length) (hi : i < 8) (hn : t.getD (2 + i) 0 = 255) : PI t (i + 1) at_ l := by
  refine ⟨h.len, h.ok, h.lo, by have := h.hi; omega, h.rest1 hi, ?_⟩
  rw [h.inv, ns_drop hl hi, parse0, if_pos hn, Option.map_map]
  congr 1
  funext r
  simp only [Function.comp]
  rw [List.take_add_one, h.at_i hi]
  simp
theorem PI.put {t : List UInt8} {i at_ : Nat} {l : List CL} (h : PI t i at_ l) (hl : 236 ≤ t.length) (hi : i < 8) (hn : ¬ t.getD (2 + i) 0 = 255) (hk : ¬ 20 < (t.getD (2 + i) 0).toNat) {v : List UInt8} (hv : v = (t.drop at_).take (t.getD (2 + i) 0).toNat) :
    PI t (i + 1) (at_ + (t.getD (2 + i) 0).toNat) (l.set i (true, v)) := by
  subst hv
  have h8 := h.len
  refine ⟨by simp [h8], fun c hc => ?_, by have := h.lo; omega, by have := h.hi; omega, ?_, ?_⟩
  · rcases List.mem_or_eq_of_mem_set hc with hc | rfl
    · exact h.ok c hc
    · simp only [List.length_take]; omega
  · rw [List.drop_set_of_lt (by omega)]
    exact h.rest1 hi
  · rw [h.inv, ns_drop hl hi, parse0, if_neg hn, if_neg hk, Option.map_map, List.drop_drop]
    congr 1
    funext r
    simp only [Function.comp]
    rw [List.take_add_one, List.getElem?_set, if_pos rfl, if_pos (by omega), List.take_set_of_le (Nat.le_refl _)]
    simp
theorem PI.big {t : List UInt8} {i at_ : Nat} {l : List CL} (h : PI t i at_ l) (hl : 236 ≤ t.length) (hi : i < 8) (hn : ¬ t.getD (2 + i) 0 = 255) (hk : 20 < (t.getD (2 + i) 0).toNat) : parse0 ((t.drop 2).take 8) (t.drop 10) = none := by
  rw [h.inv, ns_drop hl hi, parse0, if_neg hn, if_pos hk]
  rfl
theorem PI.fin {t : List UInt8} {at_ : Nat} {l : List CL} (h : PI t 8 at_ l) : parse0 ((t.drop 2).take 8) (t.drop 10) = some l := by
  rw [h.inv, List.drop_eq_nil_of_le (by simp only [List.length_take]; omega), parse0]
  simp only [Option.map_some, List.append_nil]
  rw [List.take_of_length_le (Nat.le_of_eq h.len)]
theorem PI.pok {t : List UInt8} {i at_ : Nat} {l : List CL} (h : PI t i at_ l) {n : Nat} (hn : n < 18446744073709551616) : POk ⟨n, l⟩ := ⟨h.len, hn, fun c hc => by have := h.ok c hc; omega⟩
theorem cut_eq {t : List UInt8} {a k : Nat} : (t.take (a + k)).drop a = (t.drop a).take k := by rw [List.drop_take, Nat.add_sub_cancel_left]
end Go.Q
namespace Go.Q
theorem openS_len {b : List UInt8} (h : b.length = 240) (ho : (openS b).2 = 0) : (openS b).1.length = 236 := by
  rw [openS, if_neg (by omega)] at ho ⊢
  split at ho
  · rename_i h2
    rw [if_pos h2]
    simp only [List.length_take]
    omega
  · simp at ho
theorem stampS_lt (b : List UInt8) : (stampS b).1 < 18446744073709551616 := by
  unfold stampS
  split
  · simp
  · have h := unbe_lt (b.take 8)
    have h2 : (b.take 8).length ≤ 8 := List.length_take_le _ _
    have h3 : (256 : Nat) ^ (b.take 8).length ≤ 256 ^ 8 := Nat.pow_le_pow_right (by omega) h2
    simp only
    omega
theorem decS_ok (id : Int) (b : List UInt8) : POk (decS id b).1 := by
  by_cases h : (decS id b).2 = 0
  · obtain ⟨_, h2, h3, _, _⟩ := enc_dec h
    obtain ⟨h4, h5⟩ := rightP_spec h2
    exact ⟨h3, by omega, fun c hc => by have := (h4 c hc).1; omega⟩
  · rw [dec_err h]
    exact noPg_ok
end Go.Q
namespace Go.Q
theorem be1 (n : Nat) : [UInt8.ofNat (n % 256)] = be 1 n := rfl
end Go.Q
