/- Facts for the statements of layer 4. Conditions: none. -/
import Derived.Test.YtpncaeadbfdflaaPage2
set_option linter.unusedSimpArgs false
set_option linter.unusedVariables false
namespace Go.Q
theorem image_mid {id : Nat} {p : PG} (h8 : p.cells.length = 8) (hr : rightP p = true) : midS (imageS id p) = taleS id p ∧ (imageS id p).take 8 = be 8 p.lsn ∧ ((imageS id p).take 136).drop 128 = be 8 p.lsn ∧ tornS (imageS id p) = false ∧ (imageS id p).length = 256 := by
  have ht := taleS_len (id := id) h8 hr
  obtain ⟨i1, i2, i3, i4⟩ := image_parts (s1 := be 8 p.lsn) (s2 := be 8 p.lsn) (a := (taleS id p).take 120) (b := (taleS id p).drop 120) (be_len _ _) (be_len _ _) (by rw [List.length_take]; omega) (by rw [List.length_drop]; omega)
  change (imageS id p).length = 256 at i1
  change (imageS id p).take 8 = be 8 p.lsn at i2
  change ((imageS id p).take 136).drop 128 = be 8 p.lsn at i3
  change midS (imageS id p) = _ at i4
  rw [List.take_append_drop] at i4
  exact ⟨i4, i2, i3, (torn_iff i1).2 (i2.trans i3.symm), i1⟩
theorem image_id {i j : Nat} {p q : PG} (hi : i < 32) (hj : j < 32) (hp8 : p.cells.length = 8) (hq8 : q.cells.length = 8) (hp : rightP p = true) (hq : rightP q = true) (h : imageS i p = imageS j q) : i = j ∧ p = q := by
  have h1 := (image_mid (id := i) hp8 hp).1
  have h2 := (image_mid (id := j) hq8 hq).1
  rw [h, h2] at h1
  have e : ∀ (k : Nat) (x : PG), ∃ r, taleS k x = be 2 k ++ r := fun k x => by
    simp only [taleS, sealS, tale0, core, List.append_assoc]
    exact ⟨_, rfl⟩
  obtain ⟨r1, e1⟩ := e i p
  obtain ⟨r2, e2⟩ := e j q
  rw [e1, e2] at h1
  have hb := (List.append_inj h1 (by rw [be_len, be_len])).1
  have hij : i = j := by
    have a1 := unbe_be 2 i (by omega)
    have a2 := unbe_be 2 j (by omega)
    rw [← hb] at a1
    omega
  subst hij
  have d1 := dec_enc (id := (i : Int)) (p := p) (numberP_iff.2 (by omega)) hp8 hp
  have d2 := dec_enc (id := (i : Int)) (p := q) (numberP_iff.2 (by omega)) hq8 hq
  simp only [Int.toNat_natCast] at d1 d2
  rw [h, d2] at d1
  exact ⟨rfl, (congrArg Prod.fst d1).symm⟩
theorem encS_ok {id : Int} {p : PG} (h : (encS id p).2 = 0) : numberP id = true ∧ rightP p = true ∧ (encS id p).1 = imageS id.toNat p := by
  unfold encS at h ⊢
  split at h
  · rename_i h1
    rw [if_pos h1]
    exact ⟨h1.1, h1.2, rfl⟩
  · simp at h
theorem encS_err {id : Int} {p : PG} (h : (encS id p).2 ≠ 0) : encS id p = ([], 1) ∧ (rightP p = false ∨ id < 0 ∨ 32 ≤ id) := by
  unfold encS at h ⊢
  split at h
  · exact absurd rfl h
  · rename_i h1
    rw [if_neg h1]
    refine ⟨rfl, ?_⟩
    cases hr : rightP p
    · exact .inl rfl
    · right
      have : ¬ numberP id = true := fun h2 => h1 ⟨h2, hr⟩
      rw [numberP_iff] at this
      omega
theorem dec_other {id other : Int} {p : PG} (hid : numberP id = true) (h8 : p.cells.length = 8) (hr : rightP p = true) : ((decS other (imageS id.toNat p)).2 = 0) ↔ other = id := by
  obtain ⟨hi0, hi1⟩ := numberP_iff.1 hid
  constructor
  · intro h
    obtain ⟨g1, g2, g3, g4, _⟩ := enc_dec h
    obtain ⟨ho0, ho1⟩ := numberP_iff.1 g1
    have := (image_id (by omega) (by omega) g3 h8 g2 hr g4).1
    omega
  · rintro rfl
    rw [dec_enc hid h8 hr]
theorem unlike {id other : Int} {p q : PG} (hp8 : p.cells.length = 8) (hq8 : q.cells.length = 8) (h1 : (encS id p).2 = 0) (h2 : (encS other q).2 = 0) : (encS id p).1 = (encS other q).1 ↔ id = other ∧ p = q := by
  obtain ⟨a1, a2, a3⟩ := encS_ok h1
  obtain ⟨b1, b2, b3⟩ := encS_ok h2
  rw [a3, b3]
  rw [numberP_iff] at a1 b1
  constructor
  · intro h
    obtain ⟨e1, e2⟩ := image_id (by omega) (by omega) hp8 hq8 a2 b2 h
    exact ⟨by omega, e2⟩
  · rintro ⟨rfl, rfl⟩
    rfl
end Go.Q
namespace Go.Q
theorem bool_end {x y : List UInt8} {b : Bool} (h : x = y ↔ b = true) : Ending.returned (.bool ((x == y) == b)) = .returned (.bool true) := by
  cases b <;> simp_all
end Go.Q
namespace Go.Q
theorem dec_short {id : Int} {b : List UInt8} (hid : numberP id = true) (h : b.length < 256) : (decS id b).2 = 4 := by
  rw [decS, if_neg (by simp [hid]), if_pos h]
theorem dec_long {id : Int} {b : List UInt8} (hid : numberP id = true) (h : 256 < b.length) : (decS id b).2 = 2 := by
  rw [decS, if_neg (by simp [hid]), if_neg (by omega), if_pos h]
theorem dec_torn {id : Int} {b : List UInt8} (hid : numberP id = true) (h : b.length = 256) (ht : tornS b = true) : (decS id b).2 = 14 := by
  rw [decS, if_neg (by simp [hid]), if_neg (by omega), if_neg (by omega), if_pos ht]
theorem dec_sum {id : Int} {b : List UInt8} (hid : numberP id = true) (h : b.length = 256) (ht : tornS b = false) (ho : openS (midS b) = ([], 3)) : (decS id b).2 = 3 := by
  rw [decS, if_neg (by simp [hid]), if_neg (by omega), if_neg (by omega), if_neg (by simp [ht]), ho, if_pos (by simp)]
theorem be8_inj {a b : Nat} (ha : a < 18446744073709551616) (hb : b < 18446744073709551616) (h : be 8 a = be 8 b) : a = b := by
  have h1 := unbe_be 8 a ha
  have h2 := unbe_be 8 b hb
  rw [← h1, ← h2, h]
theorem mixed_torn {i j : Nat} {p q : PG} (hp : POk p) (hq : POk q) (rp : rightP p = true) (rq : rightP q = true) (hne : p.lsn ≠ q.lsn) : ((imageS i p).take 128 ++ (imageS j q).drop 128).length = 256 ∧ tornS ((imageS i p).take 128 ++ (imageS j q).drop 128) = true := by
  obtain ⟨_, a2, a3, _, a5⟩ := image_mid (id := i) hp.len rp
  obtain ⟨_, b2, b3, _, b5⟩ := image_mid (id := j) hq.len rq
  have hl : ((imageS i p).take 128 ++ (imageS j q).drop 128).length = 256 := by simp only [List.length_append, List.length_take, List.length_drop]; omega
  have l128 : ((imageS i p).take 128).length = 128 := by rw [List.length_take]; omega
  refine ⟨hl, ?_⟩
  cases h : tornS ((imageS i p).take 128 ++ (imageS j q).drop 128)
  · rw [torn_iff hl] at h
    exfalso
    apply hne
    refine be8_inj hp.lsn hq.lsn ?_
    rw [← a2, ← b3]
    rw [List.take_append_of_le_length (by omega), List.take_take] at h
    rw [show min 8 128 = 8 from rfl] at h
    rw [h, List.take_append, List.take_of_length_le (by omega), List.drop_left' l128, l128, List.drop_take]
  · rfl
theorem turn_bit {t : R} (h : t ≠ 0#32) : ∃ i, i < 32 ∧ t.getLsbD i = true := by
  apply Classical.byContradiction
  intro hn
  apply h
  apply BitVec.eq_of_getLsbD_eq
  intro i hi
  rw [BitVec.getLsbD_zero]
  cases hb : t.getLsbD i
  · rfl
  · exact absurd ⟨i, hi, hb⟩ hn
theorem stamp_bits {b : List UInt8} (h : b.take 8 = (b.take 136).drop 128) (hl : b.length = 256) {j : Nat} (hj : j < 64) : bitAt b j = bitAt b (1024 + j) := by
  unfold bitAt
  have e1 : (1024 + j) / 8 = 128 + j / 8 := by omega
  have e2 : (1024 + j) % 8 = j % 8 := by omega
  rw [e1, e2]
  congr 2
  have h1 : (b.take 8)[j / 8]? = ((b.take 136).drop 128)[j / 8]? := by rw [h]
  rw [List.getElem?_take, if_pos (by omega), List.getElem?_drop, List.getElem?_take, if_pos (by omega)] at h1
  simp only [List.getD, h1]
theorem bits_stamp {b : List UInt8} (hl : b.length = 256) (h : ∀ j, j < 64 → bitAt b j = bitAt b (1024 + j)) : b.take 8 = (b.take 136).drop 128 := by
  apply List.ext_getElem?
  intro k
  rw [List.getElem?_take, List.getElem?_drop, List.getElem?_take]
  by_cases hk : k < 8
  · rw [if_pos hk, if_pos (by omega), List.getElem?_eq_getElem (by omega), List.getElem?_eq_getElem (by omega)]
    congr 1
    apply UInt8.toNat_inj.1
    apply Nat.eq_of_testBit_eq
    intro m
    by_cases hm : m < 8
    · have := h (8 * k + m) (by omega)
      unfold bitAt at this
      rw [show (8 * k + m) / 8 = k by omega, show (8 * k + m) % 8 = m by omega, show (1024 + (8 * k + m)) / 8 = 128 + k by omega, show (1024 + (8 * k + m)) % 8 = m by omega] at this
      simpa only [List.getD, List.getElem?_eq_getElem (show k < b.length by omega), List.getElem?_eq_getElem (show 128 + k < b.length by omega), Option.getD_some] using this
    · have h1 := (b[k]'(by omega)).toNat_lt
      have h2 := (b[128 + k]'(by omega)).toNat_lt
      have hp : (2 : Nat) ^ 8 ≤ 2 ^ m := Nat.pow_le_pow_right (by omega) (by omega)
      rw [Nat.testBit_lt_two_pow (by omega), Nat.testBit_lt_two_pow (by omega)]
  · rw [if_neg hk, if_neg (by omega)]
theorem mid_bits {b : List UInt8} (hl : b.length = 256) (j : Nat) : bitAt (midS b) j = if j < 960 then bitAt b (64 + j) else bitAt b (128 + j) := by
  have l1 : ((b.take 128).drop 8).length = 120 := by simp [hl]
  unfold bitAt
  have e : (midS b).getD (j / 8) 0 = if j < 960 then b.getD ((64 + j) / 8) 0 else b.getD ((128 + j) / 8) 0 := by
    simp only [midS, List.getD, List.getElem?_append, l1]
    by_cases h : j < 960
    · rw [if_pos h, if_pos (by omega), List.getElem?_drop, List.getElem?_take, if_pos (by omega), show 8 + j / 8 = (64 + j) / 8 by omega]
    · rw [if_neg h, if_neg (by omega), List.getElem?_drop, show 136 + (j / 8 - 120) = (128 + j) / 8 by omega]
  rw [e]
  split
  · rw [show (64 + j) % 8 = j % 8 by omega]
  · rw [show (128 + j) % 8 = j % 8 by omega]
theorem wn_out {K : Nat} {t : R} {j : Nat} (h : j < K ∨ K + 32 ≤ j) : wn K 32 t j = false := by
  unfold wn
  rcases h with h | h
  · simp; omega
  · simp; omega
theorem wn_in {K i : Nat} {t : R} (hi : i < 32) : wn K 32 t (K + i) = t.getLsbD i := by
  unfold wn
  simp [hi]
theorem wn_shift {K a : Nat} {t : R} (h : a ≤ K) (j : Nat) : wn K 32 t (a + j) = wn (K - a) 32 t j := by
  have e1 : decide (K ≤ a + j) = decide (K - a ≤ j) := by simp only [decide_eq_decide]; omega
  have e2 : decide (a + j < K + 32) = decide (j < K - a + 32) := by simp only [decide_eq_decide]; omega
  unfold wn
  rw [show a + j - K = j - (K - a) by omega, e1, e2]
theorem turned_stamp {id : Int} {i : Nat} {p : PG} {xs : List UInt8} {K : Nat} {t : R} (hid : numberP id = true) (h8 : p.cells.length = 8) (hr : rightP p = true) (hl : xs.length = 256) (ht : t ≠ 0#32)
    (hx : ∀ j, j < 2048 → bitAt xs j = (bitAt (imageS i p) j ^^ wn K 32 t j)) (hK : K + 32 ≤ 64 ∨ (1024 ≤ K ∧ K + 32 ≤ 1088)) : (decS id xs).2 = 14 := by
  refine dec_torn hid hl ?_
  obtain ⟨_, a2, a3, _, a5⟩ := image_mid (id := i) h8 hr
  cases h : tornS xs
  · exfalso
    rw [torn_iff hl] at h
    obtain ⟨m, hm, hb⟩ := turn_bit ht
    have him : ∀ j, j < 64 → bitAt (imageS i p) j = bitAt (imageS i p) (1024 + j) := fun j hj => stamp_bits (a2.trans a3.symm) a5 hj
    have key : ∀ j, j < 64 → wn K 32 t j = wn K 32 t (1024 + j) := by
      intro j hj
      have h1 := stamp_bits h hl hj
      rw [hx j (by omega), hx (1024 + j) (by omega), ← him j hj] at h1
      cases hz : bitAt (imageS i p) j <;> simpa [hz] using h1
    rcases hK with hK | ⟨hK1, hK2⟩
    · have := key (K + m) (by omega)
      rw [wn_in hm, hb, wn_out (by omega)] at this
      cases this
    · have := key (K + m - 1024) (by omega)
      rw [show 1024 + (K + m - 1024) = K + m by omega, wn_in hm, hb, wn_out (by omega)] at this
      cases this
  · rfl
theorem turned_tale {id : Int} {i : Nat} {p : PG} {xs : List UInt8} {K : Nat} {t : R} (hid : numberP id = true) (h8 : p.cells.length = 8) (hr : rightP p = true) (hl : xs.length = 256) (ht : t ≠ 0#32)
    (hx : ∀ j, j < 2048 → bitAt xs j = (bitAt (imageS i p) j ^^ wn K 32 t j)) (hK : (64 ≤ K ∧ K + 32 ≤ 1024) ∨ (1088 ≤ K ∧ K + 32 ≤ 2048)) : (decS id xs).2 = 3 := by
  obtain ⟨a1, a2, a3, _, a5⟩ := image_mid (id := i) h8 hr
  have ht0 : tornS xs = false := by
    rw [torn_iff hl]
    refine bits_stamp hl fun j hj => ?_
    rw [hx j (by omega), hx (1024 + j) (by omega), wn_out (by omega), wn_out (by omega), Bool.xor_false, Bool.xor_false]
    exact stamp_bits (a2.trans a3.symm) a5 hj
  refine dec_sum hid hl ht0 ?_
  have hsl : (sealS (tale0 i p.cells)).length = 240 := taleS_len (id := i) h8 hr
  have hm := mid_len hl
  have hmi : ∀ j, bitAt (sealS (tale0 i p.cells)) j = if j < 960 then bitAt (imageS i p) (64 + j) else bitAt (imageS i p) (128 + j) := by
    intro j
    rw [← mid_bits a5, a1]
    rfl
  rcases hK with ⟨hK1, hK2⟩ | ⟨hK1, hK2⟩
  · refine turned_open (b := tale0 i p.cells) (k := K - 64) (t := t) (by omega) ht (by omega) fun j hj => ?_
    rw [mid_bits hl, hmi]
    by_cases h : j < 960
    · rw [if_pos h, if_pos h, hx _ (by omega), wn_shift (by omega)]
    · rw [if_neg h, if_neg h, hx _ (by omega), wn_out (by omega), wn_out (by omega)]
  · refine turned_open (b := tale0 i p.cells) (k := K - 128) (t := t) (by omega) ht (by omega) fun j hj => ?_
    rw [mid_bits hl, hmi]
    by_cases h : j < 960
    · rw [if_pos h, if_pos h, hx _ (by omega), wn_out (by omega), wn_out (by omega)]
    · rw [if_neg h, if_neg h, hx _ (by omega), wn_shift (by omega)]
end Go.Q
