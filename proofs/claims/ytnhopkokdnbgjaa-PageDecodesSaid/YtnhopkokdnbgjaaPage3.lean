/- Facts for the statements of layer 4. Conditions: none. -/
import Derived.Test.YtnhopkokdnbgjaaPage2
set_option linter.unusedSimpArgs false
set_option linter.unusedVariables false
namespace Go.Q
theorem image_mid {id : Nat} {p : PG} (h8 : p.cells.length = 8) (hr : rightP p = true) : midS (imageS id p) = taleS id p ∧ (imageS id p).take 8 = be 8 p.lsn ∧ ((imageS id p).take 136).drop 128 = be 8 p.lsn ∧ tornS (imageS id p) = false ∧ (imageS id p).length = 256 := by
  have ht := taleS_len (id := id) h8 hr
  obtain ⟨i1, i2, i3, i4⟩ := image_parts (s1 := be 8 p.lsn) (s2 := be 8 p.lsn) (a := (taleS id p).take 120) (b := (taleS id p).drop 120) (be_len _ _) (be_len _ _) (by rw [List.length_take]; omega) (by rw [List.length_drop]; omega)
  change (imageS id p).length = 256 at i1
  change (imageS id p).take 8 = be 8 p.lsn at i2
  change ((imageS id p).take 136).drop 128 = be 8 p.lsn at i3
  change midS (imageS id p) = _ at i4
  rw [List.take_append_drop] at i4
  exact ⟨i4, i2, i3, (torn_iff i1).2 (i2.trans i3.symm), i1⟩
theorem image_id {i j : Nat} {p q : PG} (hi : i < 32) (hj : j < 32) (hp8 : p.cells.length = 8) (hq8 : q.cells.length = 8) (hp : rightP p = true) (hq : rightP q = true) (h : imageS i p = imageS j q) : i = j ∧ p = q := by
  have h1 := (image_mid (id := i) hp8 hp).1
  have h2 := (image_mid (id := j) hq8 hq).1
  rw [h, h2] at h1
  have e : ∀ (k : Nat) (x : PG), ∃ r, taleS k x = be 2 k ++ r := fun k x => by
    simp only [taleS, sealS, tale0, core, List.append_assoc]
    exact ⟨_, rfl⟩
  obtain ⟨r1, e1⟩ := e i p
  obtain ⟨r2, e2⟩ := e j q
  rw [e1, e2] at h1
  have hb := (List.append_inj h1 (by rw [be_len, be_len])).1
  have hij : i = j := by
    have a1 := unbe_be 2 i (by omega)
    have a2 := unbe_be 2 j (by omega)
    rw [← hb] at a1
    omega
  subst hij
  have d1 := dec_enc (id := (i : Int)) (p := p) (numberP_iff.2 (by omega)) hp8 hp
  have d2 := dec_enc (id := (i : Int)) (p := q) (numberP_iff.2 (by omega)) hq8 hq
  simp only [Int.toNat_natCast] at d1 d2
  rw [h, d2] at d1
  exact ⟨rfl, (congrArg Prod.fst d1).symm⟩
theorem encS_ok {id : Int} {p : PG} (h : (encS id p).2 = 0) : numberP id = true ∧ rightP p = true ∧ (encS id p).1 = imageS id.toNat p := by
  unfold encS at h ⊢
  split at h
  · rename_i h1
    rw [if_pos h1]
    exact ⟨h1.1, h1.2, rfl⟩
  · simp at h
theorem encS_err {id : Int} {p : PG} (h : (encS id p).2 ≠ 0) : encS id p = ([], 1) ∧ (rightP p = false ∨ id < 0 ∨ 32 ≤ id) := by
  unfold encS at h ⊢
  split at h
  · exact absurd rfl h
  · rename_i h1
    rw [if_neg h1]
    refine ⟨rfl, ?_⟩
    cases hr : rightP p
    · exact .inl rfl
    · right
      have : ¬ numberP id = true := fun h2 => h1 ⟨h2, hr⟩
      rw [numberP_iff] at this
      omega
theorem dec_other {id other : Int} {p : PG} (hid : numberP id = true) (h8 : p.cells.length = 8) (hr : rightP p = true) : ((decS other (imageS id.toNat p)).2 = 0) ↔ other = id := by
  obtain ⟨hi0, hi1⟩ := numberP_iff.1 hid
  constructor
  · intro h
    obtain ⟨g1, g2, g3, g4, _⟩ := enc_dec h
    obtain ⟨ho0, ho1⟩ := numberP_iff.1 g1
    have := (image_id (by omega) (by omega) g3 h8 g2 hr g4).1
    omega
  · rintro rfl
    rw [dec_enc hid h8 hr]
theorem unlike {id other : Int} {p q : PG} (hp8 : p.cells.length = 8) (hq8 : q.cells.length = 8) (h1 : (encS id p).2 = 0) (h2 : (encS other q).2 = 0) : (encS id p).1 = (encS other q).1 ↔ id = other ∧ p = q := by
  obtain ⟨a1, a2, a3⟩ := encS_ok h1
  obtain ⟨b1, b2, b3⟩ := encS_ok h2
  rw [a3, b3]
  rw [numberP_iff] at a1 b1
  constructor
  · intro h
    obtain ⟨e1, e2⟩ := image_id (by omega) (by omega) hp8 hq8 a2 b2 h
    exact ⟨by omega, e2⟩
  · rintro ⟨rfl, rfl⟩
    rfl
end Go.Q
namespace Go.Q
theorem bool_end {x y : List UInt8} {b : Bool} (h : x = y ↔ b = true) : Ending.returned (.bool ((x == y) == b)) = .returned (.bool true) := by
  cases b <;> simp_all
end Go.Q
