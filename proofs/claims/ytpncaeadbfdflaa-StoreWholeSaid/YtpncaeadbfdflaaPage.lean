/- Plain specification of layer 4: pages and their images; no program in sight. Conditions: none. -/
import Derived.Test.YtpncaeadbfdflaaMath1
import Derived.Test.YtpncaeadbfdflaaCrc3
set_option linter.unusedSimpArgs false
set_option linter.unusedVariables false
namespace Go.Q
abbrev CL := Bool × List UInt8
structure PG where
  lsn : Nat
  cells : List CL
  deriving DecidableEq
def cellV (c : CL) : List Value := [.bool c.1, T c.2]
def cellsV (l : List CL) : List Value := l.flatMap cellV
def pgV (p : PG) : List Value := .int .u64 (p.lsn : Int) :: cellsV p.cells
def noCell : CL := (false, [])
def noPg : PG := ⟨0, List.replicate 8 noCell⟩
/-- What any page that a program can have meets. -/
structure POk (p : PG) : Prop where
  len : p.cells.length = 8
  lsn : p.lsn < 18446744073709551616
  val : ∀ c ∈ p.cells, c.2.length ≤ 9223372036854775807
theorem noPg_ok : POk noPg := ⟨rfl, by decide, fun c hc => by simp [noPg, noCell] at hc; simp [hc]⟩
def cellOk (c : CL) : Bool := decide (c.2.length ≤ 20) && (c.1 || c.2 == [])
def rightP (p : PG) : Bool := p.cells.all cellOk && decide (p.lsn ≤ 4611686018427387904)
theorem rightP_spec {p : PG} (h : rightP p = true) : (∀ c ∈ p.cells, c.2.length ≤ 20 ∧ (c.1 = false → c.2 = [])) ∧ p.lsn ≤ 4611686018427387904 := by
  simp only [rightP, Bool.and_eq_true, decide_eq_true_eq, List.all_eq_true, cellOk, Bool.or_eq_true, beq_iff_eq] at h
  exact ⟨fun c hc => ⟨(h.1 c hc).1, fun hf => by rcases (h.1 c hc).2 with h2 | h2; rw [hf] at h2; cases h2; exact h2⟩, h.2⟩
def lenB (c : CL) : UInt8 := if c.1 = true then UInt8.ofNat (c.2.length % 256) else 255
def valB (c : CL) : List UInt8 := if c.1 = true then c.2 else []
def lensB (l : List CL) : List UInt8 := l.map lenB
def valsB (l : List CL) : List UInt8 := l.flatMap valB
theorem lensB_len (l : List CL) : (lensB l).length = l.length := by simp [lensB]
theorem valsB_len {l : List CL} (h : ∀ c ∈ l, c.2.length ≤ 20) : (valsB l).length ≤ 20 * l.length := by
  induction l with
  | nil => simp [valsB]
  | cons c l ih =>
    have h1 := h c List.mem_cons_self
    have h2 := ih fun d hd => h d (List.mem_cons_of_mem _ hd)
    have h3 : (valB c).length ≤ 20 := by unfold valB; split; exact h1; simp
    simp only [valsB, List.flatMap_cons, List.length_append, List.length_cons] at h2 ⊢
    omega
def core (id : Nat) (l : List CL) : List UInt8 := be 2 id ++ lensB l ++ valsB l
def tale0 (id : Nat) (l : List CL) : List UInt8 := core id l ++ List.replicate (236 - (core id l).length) 0
def taleS (id : Nat) (p : PG) : List UInt8 := sealS (tale0 id p.cells)
def imageS (id : Nat) (p : PG) : List UInt8 := be 8 p.lsn ++ (taleS id p).take 120 ++ (be 8 p.lsn ++ (taleS id p).drop 120)
theorem core_len {id : Nat} {l : List CL} (h8 : l.length = 8) (h : ∀ c ∈ l, c.2.length ≤ 20) : (core id l).length ≤ 170 ∧ 10 ≤ (core id l).length := by
  have := valsB_len h
  simp only [core, List.length_append, be_len, lensB_len, h8] at this ⊢
  omega
theorem tale0_len {id : Nat} {l : List CL} (h8 : l.length = 8) (h : ∀ c ∈ l, c.2.length ≤ 20) : (tale0 id l).length = 236 := by
  have := core_len (id := id) h8 h
  simp only [tale0, List.length_append, List.length_replicate]
  omega
theorem taleS_len {id : Nat} {p : PG} (h8 : p.cells.length = 8) (h : rightP p = true) : (taleS id p).length = 240 := by
  rw [taleS, sealS_len, tale0_len h8 fun c hc => ((rightP_spec h).1 c hc).1]
theorem imageS_len {id : Nat} {p : PG} (h8 : p.cells.length = 8) (h : rightP p = true) : (imageS id p).length = 256 := by
  have := taleS_len (id := id) h8 h
  simp only [imageS, List.length_append, be_len, List.length_take, List.length_drop]
  omega
def numberP (id : Int) : Bool := decide (0 ≤ id) && decide (id < 32)
def encS (id : Int) (p : PG) : List UInt8 × Int := if numberP id = true ∧ rightP p = true then (imageS id.toNat p, 0) else ([], 1)
theorem encS_yes {id : Int} {p : PG} (h1 : numberP id = true) (h2 : rightP p = true) : encS id p = (imageS id.toNat p, 0) := by rw [encS, if_pos ⟨h1, h2⟩]
theorem encS_no1 {id : Int} {p : PG} (h1 : numberP id = false) : encS id p = ([], 1) := by rw [encS, if_neg (by simp [h1])]
theorem encS_no2 {id : Int} {p : PG} (h1 : rightP p = false) : encS id p = ([], 1) := by rw [encS, if_neg (by simp [h1])]
theorem numberP_iff {id : Int} : numberP id = true ↔ 0 ≤ id ∧ id < 32 := by simp [numberP]
theorem numberP_no {id : Int} (h : ¬ (0 ≤ id ∧ id < 32)) : numberP id = false := by
  cases h2 : numberP id
  · rfl
  · exact absurd (numberP_iff.1 h2) h
/-! ### decoding -/
def tornS (b : List UInt8) : Bool := decide (b.length = 256) && !(b.take 8 == (b.take 136).drop 128)
def stampS (b : List UInt8) : Nat × Bool := if b.length ≠ 256 ∨ tornS b = true then (0, false) else (unbe (b.take 8), true)
def told0 : List UInt8 → List UInt8 → Option (List CL)
  | [], rest => if rest.all (· == 0) = true then some [] else none
  | n :: ns, rest =>
    if n = 255 then (told0 ns rest).map (noCell :: ·)
    else if 20 < n.toNat then none
    else (told0 ns (rest.drop n.toNat)).map ((true, rest.take n.toNat) :: ·)
def toldS (id : Int) (t : List UInt8) : Option (List CL) :=
  if ((t.getD 0 0).toNat * 256 + (t.getD 1 0).toNat : Int) ≠ id then none else told0 ((t.drop 2).take 8) (t.drop 10)
def midS (b : List UInt8) : List UInt8 := (b.take 128).drop 8 ++ b.drop 136
def decS (id : Int) (b : List UInt8) : PG × Int :=
  if numberP id = false then (noPg, 1)
  else if b.length < 256 then (noPg, 4)
  else if 256 < b.length then (noPg, 2)
  else if tornS b = true then (noPg, 14)
  else if (openS (midS b)).2 ≠ 0 then (noPg, (openS (midS b)).2)
  else match toldS id (openS (midS b)).1 with
    | none => (noPg, 2)
    | some l => if (stampS b).1 ≤ 4611686018427387904 then (⟨(stampS b).1, l⟩, 0) else (noPg, 2)
/-- What is told is so many cells, each as it should be; and its bytes are just those. -/
theorem told0_spec : ∀ (ns rest : List UInt8) (l : List CL), told0 ns rest = some l → 20 * ns.length ≤ rest.length → l.length = ns.length ∧ lensB l = ns ∧ (∀ c ∈ l, c.2.length ≤ 20 ∧ (c.1 = false → c.2 = [])) ∧
    rest = valsB l ++ List.replicate (rest.length - (valsB l).length) 0
  | [], rest, l, h, _ => by
    unfold told0 at h
    split at h
    · rename_i hz
      cases h
      refine ⟨rfl, rfl, (fun c hc => by cases hc), ?_⟩
      simp only [valsB, List.flatMap_nil, List.nil_append, List.length_nil, Nat.sub_zero]
      refine List.eq_replicate_iff.2 ⟨rfl, fun b hb => ?_⟩
      simpa using List.all_eq_true.1 hz b hb
    · cases h
  | n :: ns, rest, l, h, hl => by
    simp only [List.length_cons] at hl
    unfold told0 at h
    split at h
    · rename_i hn
      simp only [Option.map_eq_some_iff] at h
      obtain ⟨l', h', rfl⟩ := h
      obtain ⟨h1, h2, h3, h4⟩ := told0_spec ns rest l' h' (by omega)
      refine ⟨by simp [h1], ?_, ?_, ?_⟩
      · simp only [lensB, List.map_cons] at h2 ⊢
        rw [h2, hn]
        rfl
      · intro c hc
        rcases List.mem_cons.1 hc with rfl | hc
        · exact ⟨by simp [noCell], fun _ => rfl⟩
        · exact h3 c hc
      · have e : valsB (noCell :: l') = valsB l' := by simp [valsB, valB, noCell]
        rw [e]
        exact h4
    · rename_i hn
      split at h
      · cases h
      · rename_i hk
        simp only [Option.map_eq_some_iff] at h
        obtain ⟨l', h', rfl⟩ := h
        obtain ⟨h1, h2, h3, h5⟩ := told0_spec ns _ l' h' (by simp only [List.length_drop]; omega)
        have hn' := n.toNat_lt
        refine ⟨by simp [h1], ?_, ?_, ?_⟩
        · simp only [lensB, List.map_cons] at h2 ⊢
          rw [h2]
          congr 1
          simp only [lenB, if_true, List.length_take]
          rw [show min n.toNat rest.length % 256 = n.toNat by omega]
          simp
        · intro c hc
          rcases List.mem_cons.1 hc with rfl | hc
          · exact ⟨by simp only [List.length_take]; omega, fun h => by cases h⟩
          · exact h3 c hc
        · have e : valsB ((true, rest.take n.toNat) :: l') = rest.take n.toNat ++ valsB l' := by simp [valsB, valB]
          rw [e, List.append_assoc]
          have e2 : rest.length - (rest.take n.toNat ++ valsB l').length = (rest.drop n.toNat).length - (valsB l').length := by simp only [List.length_append, List.length_take, List.length_drop]; omega
          rw [e2, ← h5, List.take_append_drop]
theorem told0_back : ∀ (l : List CL) (z : Nat), (∀ c ∈ l, c.2.length ≤ 20 ∧ (c.1 = false → c.2 = [])) → told0 (lensB l) (valsB l ++ List.replicate z 0) = some l
  | [], z, _ => by
    simp only [lensB, valsB, List.map_nil, List.flatMap_nil, List.nil_append, told0]
    rw [if_pos (List.all_eq_true.2 fun b hb => by simp [List.eq_of_mem_replicate hb])]
  | c :: l, z, h => by
    have ih := told0_back l z fun d hd => h d (List.mem_cons_of_mem _ hd)
    obtain ⟨h1, h2⟩ := h c List.mem_cons_self
    obtain ⟨u, v⟩ := c
    cases u with
    | false =>
      obtain rfl : v = [] := h2 rfl
      simp only [lensB, valsB, List.map_cons, List.flatMap_cons, lenB, valB, told0] at ih ⊢
      simp only [Bool.false_eq_true, if_false, if_true, List.nil_append, ih]
      rfl
    | true =>
      simp only at h1
      have hb : (UInt8.ofNat (v.length % 256)).toNat = v.length := by simp; omega
      have hne : ¬ UInt8.ofNat (v.length % 256) = 255 := fun h => by rw [h] at hb; simp at hb; omega
      simp only [lensB, valsB, List.map_cons, List.flatMap_cons, lenB, valB, told0, if_true] at ih ⊢
      rw [if_neg hne, hb, if_neg (by omega), List.append_assoc, List.drop_left, List.take_left, ih]
      rfl
/-! ### the document's reading -/
def parse0 : List UInt8 → List UInt8 → Option (List CL)
  | [], _ => some []
  | n :: ns, rest =>
    if n = 255 then (parse0 ns rest).map (noCell :: ·)
    else if 20 < n.toNat then none
    else (parse0 ns (rest.drop n.toNat)).map ((true, rest.take n.toNat) :: ·)
theorem told0_parse : ∀ (ns rest x : List UInt8) (l : List CL), told0 ns rest = some l → 20 * ns.length ≤ rest.length → parse0 ns (rest ++ x) = some l
  | [], rest, x, l, h, _ => by
    unfold told0 at h
    split at h
    · cases h; rfl
    · cases h
  | n :: ns, rest, x, l, h, hl => by
    simp only [List.length_cons] at hl
    unfold told0 at h
    unfold parse0
    split at h
    · rename_i hn
      rw [if_pos hn]
      simp only [Option.map_eq_some_iff] at h ⊢
      obtain ⟨l', h', rfl⟩ := h
      exact ⟨l', told0_parse ns rest x l' h' (by omega), rfl⟩
    · rename_i hn
      split at h
      · cases h
      · rename_i hk
        rw [if_neg hn, if_neg hk]
        simp only [Option.map_eq_some_iff] at h ⊢
        obtain ⟨l', h', rfl⟩ := h
        refine ⟨l', ?_, ?_⟩
        · rw [List.drop_append_of_le_length (by omega)]
          exact told0_parse ns _ x l' h' (by simp only [List.length_drop]; omega)
        · rw [List.take_append_of_le_length (by omega)]
theorem parse0_len : ∀ (ns rest : List UInt8) (l : List CL), parse0 ns rest = some l → l.length = ns.length
  | [], rest, l, h => by cases h; rfl
  | n :: ns, rest, l, h => by
    unfold parse0 at h
    split at h
    · simp only [Option.map_eq_some_iff] at h
      obtain ⟨l', h', rfl⟩ := h
      simp [parse0_len ns _ l' h']
    · split at h
      · cases h
      · simp only [Option.map_eq_some_iff] at h
        obtain ⟨l', h', rfl⟩ := h
        simp [parse0_len ns _ l' h']
def refDec (id : Int) (b : List UInt8) : PG × Int :=
  if numberP id = false then (noPg, 1)
  else if b.length < 256 then (noPg, 4)
  else if 256 < b.length then (noPg, 2)
  else if tornS b = true then (noPg, 14)
  else if ¬ sealS ((midS b).take 236) = midS b then (noPg, 3)
  else match parse0 (((midS b).drop 2).take 8) ((midS b).drop 10) with
    | none => (noPg, 2)
    | some l => if rightP ⟨(takeS b 0 8).1, l⟩ = true ∧ imageS id.toNat ⟨(takeS b 0 8).1, l⟩ = b then (⟨(takeS b 0 8).1, l⟩, 0) else (noPg, 2)
theorem be_unbe (l : List UInt8) : be l.length (unbe l) = l := by
  rw [← List.reverse_reverse l]
  induction l.reverse with
  | nil => rfl
  | cons b l ih =>
    rw [List.reverse_cons, unbe_snoc, List.length_append, List.length_singleton, be]
    have h1 := b.toNat_lt
    rw [show (unbe l.reverse * 256 + b.toNat) / 256 = unbe l.reverse by omega, show (unbe l.reverse * 256 + b.toNat) % 256 = b.toNat by omega, ih]
    simp
theorem torn_iff {b : List UInt8} (h : b.length = 256) : tornS b = false ↔ b.take 8 = (b.take 136).drop 128 := by
  simp [tornS, h]
theorem stampS_not {b : List UInt8} (h : b.length = 256) (ht : tornS b = false) : stampS b = (unbe (b.take 8), true) := by
  rw [stampS, if_neg (by simp [h, ht])]
theorem image_parts {s1 s2 a b : List UInt8} (h1 : s1.length = 8) (h2 : s2.length = 8) (ha : a.length = 120) (hb : b.length = 120) :
    (s1 ++ a ++ (s2 ++ b)).length = 256 ∧ (s1 ++ a ++ (s2 ++ b)).take 8 = s1 ∧ ((s1 ++ a ++ (s2 ++ b)).take 136).drop 128 = s2 ∧ midS (s1 ++ a ++ (s2 ++ b)) = a ++ b := by
  have h128 : (s1 ++ a).length = 128 := by simp [h1, ha]
  refine ⟨by simp [h1, h2, ha, hb], ?_, ?_, ?_⟩
  · rw [List.append_assoc, List.take_left' h1]
  · rw [List.take_append, List.take_of_length_le (by omega), List.drop_left' h128, h128, List.take_left' (by omega)]
  · rw [midS, List.take_left' h128, List.drop_left' h1, List.drop_append, List.drop_eq_nil_of_le (by omega), h128, List.nil_append, List.drop_left' (by omega)]
theorem parts_image {b : List UInt8} (h : b.length = 256) : b = b.take 8 ++ (midS b).take 120 ++ ((b.take 136).drop 128 ++ (midS b).drop 120) := by
  have l1 : ((b.take 128).drop 8).length = 120 := by simp [h]
  rw [midS, List.take_left' l1, List.drop_left' l1]
  have e1 : b.take 8 ++ (b.take 128).drop 8 = b.take 128 := by
    have := List.take_append_drop 8 (b.take 128)
    rwa [List.take_take] at this
  have e2 : (b.take 136).drop 128 ++ b.drop 136 = b.drop 128 := by
    have h3 := List.take_append_drop 8 (b.drop 128)
    rw [List.drop_drop] at h3
    rw [List.drop_take]
    exact h3
  rw [e1, e2, List.take_append_drop]
theorem mid_len {b : List UInt8} (h : b.length = 256) : (midS b).length = 240 := by simp [midS, h]
theorem openS_mid {b : List UInt8} (h : b.length = 256) : openS (midS b) = if sealS ((midS b).take 236) = midS b then ((midS b).take 236, 0) else ([], 3) := by
  rw [openS, if_neg (by rw [mid_len h]; omega), mid_len h]
theorem be2 {t : List UInt8} {id : Nat} (h : 2 ≤ t.length) (he : (t.getD 0 0).toNat * 256 + (t.getD 1 0).toNat = id) : t.take 2 = be 2 id := by
  obtain ⟨a, b, t', rfl⟩ : ∃ a b t', t = a :: b :: t' := by
    rcases t with _ | ⟨a, _ | ⟨b, t'⟩⟩
    · simp at h
    · simp at h
    · exact ⟨_, _, _, rfl⟩
  have ha := a.toNat_lt
  have hb := b.toNat_lt
  simp only [List.getD_cons_zero, List.getD_cons_succ] at he
  subst he
  simp only [be, List.take_succ_cons, List.take_zero, List.nil_append, List.cons_append]
  rw [show (a.toNat * 256 + b.toNat) / 256 % 256 = a.toNat by omega, show (a.toNat * 256 + b.toNat) % 256 = b.toNat by omega]
  simp
theorem be2_num {id : Nat} {x : List UInt8} (h : id < 65536) : ((be 2 id ++ x).getD 0 0).toNat * 256 + ((be 2 id ++ x).getD 1 0).toNat = id := by
  simp only [be, List.nil_append, List.cons_append, List.getD_cons_zero, List.getD_cons_succ]
  simp
  omega
theorem dec_enc {id : Int} {p : PG} (hid : numberP id = true) (h8 : p.cells.length = 8) (hr : rightP p = true) : decS id (imageS id.toNat p) = (p, 0) := by
  obtain ⟨hc, hl⟩ := rightP_spec hr
  obtain ⟨k, rfl⟩ := Int.eq_ofNat_of_zero_le (numberP_iff.1 hid).1
  have hk : k < 32 := by have := (numberP_iff.1 hid).2; omega
  simp only [Int.toNat_natCast]
  have ht := taleS_len (id := k) h8 hr
  obtain ⟨i1, i2, i3, i4⟩ := image_parts (s1 := be 8 p.lsn) (s2 := be 8 p.lsn) (a := (taleS k p).take 120) (b := (taleS k p).drop 120) (be_len _ _) (be_len _ _) (by rw [List.length_take]; omega) (by rw [List.length_drop]; omega)
  change (imageS k p).length = 256 at i1
  change (imageS k p).take 8 = be 8 p.lsn at i2
  change ((imageS k p).take 136).drop 128 = be 8 p.lsn at i3
  change midS (imageS k p) = _ at i4
  rw [List.take_append_drop] at i4
  have ht0 : tornS (imageS k p) = false := (torn_iff i1).2 (i2.trans i3.symm)
  have hst : stampS (imageS k p) = (p.lsn, true) := by
    rw [stampS_not i1 ht0, i2, unbe_be 8 p.lsn (by omega)]
  have l0 := core_len (id := k) h8 fun c h => (hc c h).1
  have htold : toldS (k : Int) (tale0 k p.cells) = some p.cells := by
    have e : tale0 k p.cells = be 2 k ++ (lensB p.cells ++ (valsB p.cells ++ List.replicate (236 - (core k p.cells).length) 0)) := by simp [tale0, core]
    rw [toldS, if_neg]
    · rw [e, List.drop_left' (be_len _ _), List.take_left' ((lensB_len _).trans h8), ← List.append_assoc, List.drop_left' (by simp [be_len, lensB_len, h8])]
      exact told0_back _ _ hc
    · rw [e]
      simp only [ne_eq, Decidable.not_not]
      have := be2_num (id := k) (x := lensB p.cells ++ (valsB p.cells ++ List.replicate (236 - (core k p.cells).length) 0)) (by omega)
      omega
  have ho : openS (midS (imageS k p)) = (tale0 k p.cells, 0) := by rw [i4]; exact open_seal _
  rw [decS, if_neg (by simp [hid]), if_neg (by omega), if_neg (by omega), if_neg (by simp [ht0]), ho, if_neg (by simp)]
  simp only [htold, hst]
  rw [if_pos hl]
theorem dec_err {id : Int} {b : List UInt8} (h : (decS id b).2 ≠ 0) : (decS id b).1 = noPg := by
  unfold decS at h ⊢
  split; rfl
  split; rfl
  split; rfl
  split; rfl
  split; rfl
  split
  · rfl
  · split
    · rename_i h1 h2 h3 h4 h5 _ l hl h6
      rw [if_neg h1, if_neg h2, if_neg h3, if_neg h4, if_neg h5] at h
      simp only [hl] at h
      rw [if_pos h6] at h
      exact absurd rfl h
    · rfl
theorem enc_dec {id : Int} {b : List UInt8} (h : (decS id b).2 = 0) : numberP id = true ∧ rightP (decS id b).1 = true ∧ (decS id b).1.cells.length = 8 ∧ imageS id.toNat (decS id b).1 = b ∧ b.length = 256 ∧ tornS b = false ∧
    stampS b = ((decS id b).1.lsn, true) ∧ sealS ((midS b).take 236) = midS b ∧ toldS id ((midS b).take 236) = some (decS id b).1.cells := by
  unfold decS at h
  split at h; · simp at h
  split at h; · simp at h
  split at h; · simp at h
  split at h; · simp at h
  split at h
  · rename_i h5; exact absurd h h5
  rename_i h1 h2 h3 h4 h5
  have hb : b.length = 256 := by omega
  have h4' : tornS b = false := by simpa using h4
  have h5' : (openS (midS b)).2 = 0 := by simpa using h5
  have hseal : sealS ((midS b).take 236) = midS b := by
    rw [openS_mid hb] at h5'
    split at h5'
    · assumption
    · simp at h5'
  have ho : openS (midS b) = ((midS b).take 236, 0) := by rw [openS_mid hb, if_pos hseal]
  rw [ho] at h
  cases htold : toldS id ((midS b).take 236) with
  | none => simp [htold] at h
  | some l =>
    simp only [htold] at h
    split at h
    · rename_i h6
      have hd : decS id b = (⟨(stampS b).1, l⟩, 0) := by
        rw [decS, if_neg h1, if_neg h2, if_neg h3, if_neg h4, if_neg h5, ho]
        simp only [htold]
        rw [if_pos h6]
      have hid : numberP id = true := by simpa using h1
      obtain ⟨k, rfl⟩ := Int.eq_ofNat_of_zero_le (numberP_iff.1 hid).1
      have hst := stampS_not hb h4'
      have ml := mid_len hb
      have htk : ((midS b).take 236).length = 236 := by rw [List.length_take]; omega
      have htold' := htold
      unfold toldS at htold
      split at htold
      · cases htold
      · rename_i hnum
        obtain ⟨t1, t2, t3, t4⟩ := told0_spec _ _ _ htold (by simp only [List.length_take, List.length_drop]; omega)
        have hlen : l.length = 8 := by rw [t1]; simp only [List.length_take, List.length_drop]; omega
        have hr : rightP ⟨(stampS b).1, l⟩ = true := by
          simp only [rightP, Bool.and_eq_true, decide_eq_true_eq, List.all_eq_true, cellOk, Bool.or_eq_true, beq_iff_eq]
          refine ⟨fun c hc => ⟨(t3 c hc).1, ?_⟩, h6⟩
          cases hu : c.1
          · exact .inr ((t3 c hc).2 hu)
          · exact .inl rfl
        have htale : tale0 k l = (midS b).take 236 := by
          have e1 := be2 (t := (midS b).take 236) (id := k) (by omega) (by omega)
          have e2 : (midS b).take 236 = ((midS b).take 236).take 2 ++ ((((midS b).take 236).drop 2).take 8 ++ ((midS b).take 236).drop 10) := by
            have := List.take_append_drop 8 (((midS b).take 236).drop 2)
            rw [List.drop_drop] at this
            rw [this, List.take_append_drop]
          rw [e2, e1, ← t2]
          conv => rhs; rw [t4]
          have hv := valsB_len fun c hc => (t3 c hc).1
          have ez : 236 - (core k l).length = (((midS b).take 236).drop 10).length - (valsB l).length := by
            simp only [core, List.length_append, be_len, lensB_len, hlen, List.length_drop, htk]
            omega
          rw [tale0, ez]
          simp only [core, List.append_assoc]
        have himg : imageS k ⟨(stampS b).1, l⟩ = b := by
          have e8 : be 8 (stampS b).1 = b.take 8 := by
            rw [hst]
            have := be_unbe (b.take 8)
            rwa [List.length_take, hb, show min 8 256 = 8 from rfl] at this
          have hs8 := (torn_iff hb).1 h4'
          rw [imageS, taleS]
          simp only [htale, hseal, e8]
          conv => rhs; rw [parts_image hb]
          rw [← hs8]
        rw [hd]
        exact ⟨hid, hr, hlen, himg, hb, h4', by rw [hst], hseal, rfl⟩
    · simp at h
theorem refDec_eq (id : Int) (b : List UInt8) : refDec id b = decS id b := by
  by_cases h0 : (decS id b).2 = 0
  · obtain ⟨h1, h2, h3, h4, h5, h6, h7, h8, h9⟩ := enc_dec h0
    have hl : (takeS b 0 8).1 = (decS id b).1.lsn := by
      have := takeS_yes (b := b) (a := 0) (w := 8) (by omega) (by omega) (by omega) (by omega) trivial
      rw [stampS_not h5 h6] at h7
      rw [show takeS b 0 8 = takeS b ((0 : Nat) : Int) ((8 : Nat) : Int) from rfl, this]
      exact congrArg Prod.fst h7
    have hp : parse0 (((midS b).drop 2).take 8) ((midS b).drop 10) = some (decS id b).1.cells := by
      unfold toldS at h9
      split at h9
      · cases h9
      · have ml := mid_len h5
        have := told0_parse _ _ ((midS b).drop 236) _ h9 (by simp only [List.length_take, List.length_drop]; omega)
        have e1 : (((midS b).take 236).drop 2).take 8 = ((midS b).drop 2).take 8 := by
          rw [List.drop_take, List.take_take]
          rfl
        have e2 : ((midS b).take 236).drop 10 ++ (midS b).drop 236 = (midS b).drop 10 := by
          rw [List.drop_take]
          have := List.take_append_drop 226 ((midS b).drop 10)
          rwa [List.drop_drop] at this
        rwa [e1, e2] at this
    rw [refDec, if_neg (by simp [h1]), if_neg (by omega), if_neg (by omega), if_neg (by simp [h6]), if_neg (by simp [h8])]
    simp only [hp, hl]
    rw [if_pos ⟨h2, h4⟩]
    exact Prod.ext rfl h0.symm
  · have h00 := dec_err h0
    have key : decS id b = (noPg, (decS id b).2) := Prod.ext h00 rfl
    rw [key]
    unfold refDec
    by_cases c1 : numberP id = false
    · rw [if_pos c1, decS, if_pos c1]
    rw [if_neg c1]
    by_cases c2 : b.length < 256
    · rw [if_pos c2, decS, if_neg c1, if_pos c2]
    rw [if_neg c2]
    by_cases c3 : 256 < b.length
    · rw [if_pos c3, decS, if_neg c1, if_neg c2, if_pos c3]
    rw [if_neg c3]
    by_cases c4 : tornS b = true
    · rw [if_pos c4, decS, if_neg c1, if_neg c2, if_neg c3, if_pos c4]
    rw [if_neg c4]
    have hb : b.length = 256 := by omega
    by_cases c5 : sealS ((midS b).take 236) = midS b
    · rw [if_neg (by simp [c5])]
      have ho : openS (midS b) = ((midS b).take 236, 0) := by rw [openS_mid hb, if_pos c5]
      have e2 : (decS id b).2 = 2 := by
        have h0' := h0
        unfold decS at h0 ⊢
        rw [if_neg c1, if_neg c2, if_neg c3, if_neg c4, ho, if_neg (by simp)] at h0 ⊢
        cases htold : toldS id ((midS b).take 236) with
        | none => simp only [htold]
        | some l =>
          simp only [htold] at h0 ⊢
          split at h0
          · simp at h0
          · rename_i h6
            rw [if_neg h6]
      rw [e2]
      cases hp : parse0 (((midS b).drop 2).take 8) ((midS b).drop 10) with
      | none => rfl
      | some l =>
        simp only
        rw [if_neg]
        rintro ⟨hr, hi⟩
        have hlen : l.length = 8 := by
          rw [parse0_len _ _ _ hp]
          have := mid_len hb
          simp only [List.length_take, List.length_drop]
          omega
        have := dec_enc (id := id) (p := ⟨(takeS b 0 8).1, l⟩) (by simpa using c1) hlen hr
        rw [hi] at this
        rw [this] at h0
        exact h0 rfl
    · rw [if_pos c5, decS, if_neg c1, if_neg c2, if_neg c3, if_neg c4, openS_mid hb, if_neg c5, if_pos (by simp)]
end Go.Q
