/- Calls on stores, as cells and as steps; facts for the statements of layer 10. Conditions: none. -/
import Derived.Test.YtpncaeadbfdflaaStoreS
import Derived.Test.YtpncaeadbfdflaaCore14
set_option linter.unusedSimpArgs false
set_option linter.unusedVariables false
namespace Go.Q
open Go.RowKit
structure OP where
  k : Int
  n : Int
  i : Int
  m : Int
  p : PG
def opV (o : OP) : List Value := .int .i64 o.k :: .int .i64 o.n :: .int .i64 o.i :: .int .i64 o.m :: pgV o.p
structure OpOk (o : OP) : Prop where
  k1 : -9223372036854775808 ≤ o.k
  k2 : o.k ≤ 9223372036854775807
  n1 : -9223372036854775808 ≤ o.n
  n2 : o.n ≤ 9223372036854775807
  i1 : -9223372036854775808 ≤ o.i
  i2 : o.i ≤ 9223372036854775807
  m1 : -9223372036854775808 ≤ o.m
  m2 : o.m ≤ 9223372036854775807
  p : POk o.p
theorem opV_len {o : OP} (h : o.p.cells.length = 8) : (opV o).length = 21 := by simp only [opV, List.length_cons, pgV_len h]
theorem opV_all {o : OP} (h : o.p.cells.length = 8) : ((opV o).drop 0).take 21 = opV o := by rw [List.drop_zero, List.take_of_length_le (by rw [opV_len h]; omega)]
theorem opV_page {o : OP} (h : o.p.cells.length = 8) : ((opV o).drop 4).take 17 = pgV o.p := by
  simp only [opV, List.drop_succ_cons, List.drop_zero]
  rw [List.take_of_length_le (by rw [pgV_len h]; omega)]
theorem opV_one (o : OP) : ∀ v ∈ opV o, v.oneCell' = true := by
  intro v hv
  simp only [opV, List.mem_cons] at hv
  rcases hv with rfl | rfl | rfl | rfl | hv
  · rfl
  · rfl
  · rfl
  · rfl
  · exact pgV_one _ v hv
def sStep (s : SS) (o : OP) : SS := if o.k = 1 then (sWrite s o.n o.i o.p o.m).1 else if o.k = 2 then (sMend s o.n o.m).1 else s
def rStep (s : SS) (o : OP) : SS := if o.k = 1 then (rWrite s o.n o.i o.p o.m).1 else if o.k = 2 then (rMend s o.n o.m).1 else s
theorem sImage_yes {s : SS} {k : Nat} {x : List UInt8} (h : s.pl[k]? = some x) : sImage s (k : Int) = (x, 0) := by
  have hk := (List.getElem?_eq_some_iff.1 h).1
  rw [sImage, if_pos (thereP_iff.2 (by omega)), plAt_eq h]
theorem sOut_eq {s r : SS} (h : SRel s r) {i : Nat} {b : AR} (hb : r.ar[i]? = some b) : sOut s (i : Int) = b.out := by
  have hi : i < r.ar.length := (List.getElem?_eq_some_iff.1 hb).1
  have l1 := h.inv.ok.ar
  have l2 := h.rok.ar
  have ha : s.ar[i]? = some (s.ar[i]'(by omega)) := List.getElem?_eq_getElem (by omega)
  rw [sOut, nodeP_iff.2 (by omega), arAt_eq ha, Bool.true_and]
  exact (h.nd i _ b ha hb).1
theorem SRel.read {s r : SS} (h : SRel s r) (id : Int) : sRead r id = sRead s id := by
  unfold sRead
  rw [h.there, h.plAt]
theorem bool_self {b : Bool} (h : b = true) : b = true := h
theorem SRel.image {s r : SS} (h : SRel s r) {k : Nat} {x : List UInt8} (hx : r.pl[k]? = some x) : sImage s (k : Int) = (x, 0) := sImage_yes (by rw [h.pl]; exact hx)
theorem sImage_no {s : SS} {id : Int} (h : thereP s id = false) : sImage s id = ([], 1) := by rw [sImage, if_neg (by simp [h])]
/-! ### arguments -/
section
variable {H : Type} {enc : TypeId × Value → H} {P : Program} {w : World} {base : Nat} {spare : Nat → Bool} {held : Bool}
theorem OT.slice {α : Type} {t e : TypeId} {sz : Nat} {cs : List Value} (g : α → List Value) (ok : α → Prop) (h : OT enc P w base spare held t cs) (ht : P.underlying t = some (.slice e)) (hsz : P.cellsOf e = sz)
    (hE : ∀ cs, OT enc P w base spare held e cs → ∃ a : α, cs = g a ∧ ok a) (hl : ∀ a, ok a → (g a).length = sz) :
    ∃ (A : Option Addr) (n c : Nat) (l : List α), cs = [.slice A n c] ∧ RdS w sz A n c (l.flatMap g) ∧ l.length = n ∧ ∀ a ∈ l, ok a := by
  subst hsz
  obtain ⟨fuel, x, h⟩ := h
  rcases DataW.trod_slice ht h with ⟨h1, _⟩ | ⟨a, len, cap, elems, rest, n, _, rfl, _, hb, hlc, hm, hlen, hel, _, _⟩
  · exact ⟨none, 0, 0, [], h1, by simpa using RdS.nil w _, rfl, (fun a h => by cases h)⟩
  · have each : ∀ i, i < len → ∃ b : α, w.cells? base (a.add (i * P.cellsOf e)) (P.cellsOf e) = some (g b) ∧ ok b := by
      intro i hi
      have h1 := hel i hi
      have h2 : elems[i]? = some (elems[i]'(by omega)) := by simp [show i < elems.length by omega]
      rw [h2, Option.bind_eq_some_iff] at h1
      obtain ⟨cs', h3, h4⟩ := h1
      obtain ⟨b, rfl, hok⟩ := hE cs' ⟨n, _, h4⟩
      exact ⟨b, h3, hok⟩
    have build : ∀ m, m ≤ len → ∃ l : List α, l.length = m ∧ (∀ b ∈ l, ok b) ∧ ∀ i b, l[i]? = some b → w.cells? base (a.add (i * P.cellsOf e)) (P.cellsOf e) = some (g b) := by
      intro m
      induction m with
      | zero => exact fun _ => ⟨[], rfl, (fun b h => by cases h), (fun i b h => by simp at h)⟩
      | succ m ih =>
        intro hm1
        obtain ⟨l, h1, h2, h3⟩ := ih (by omega)
        obtain ⟨b, h4, h5⟩ := each m (by omega)
        refine ⟨l ++ [b], by simp [h1], fun x hx => ?_, fun i x hx => ?_⟩
        · rcases List.mem_append.1 hx with hx | hx
          · exact h2 x hx
          · simp at hx; subst hx; exact h5
        · by_cases hi : i < l.length
          · rw [List.getElem?_append_left hi] at hx
            exact h3 i x hx
          · have : i = m := by
              have := (List.getElem?_eq_some_iff.1 hx).1
              simp [h1] at this
              omega
            subst this
            rw [List.getElem?_append_right (by omega), h1] at hx
            simp at hx
            subst hx
            exact h4
    obtain ⟨l, h1, h2, h3⟩ := build len (Nat.le_refl _)
    have hsz : ∀ a ∈ l, (g a).length = P.cellsOf e := fun a ha => hl a (h2 a ha)
    refine ⟨some a, len, cap, l, rfl, ⟨?_, hlc, hm, fun hn => ⟨a, rfl, fun j u hj => ?_⟩⟩, h1, h2⟩
    · rw [flat_lenL hsz, h1]
    · obtain ⟨i, b, k, h4, h5, rfl, h7⟩ := flat_get g (P.cellsOf e) l hsz j u hj
      obtain ⟨_, h8⟩ := cells_get (h3 i b h4)
      have := h8 k u h5
      rw [add_add] at this
      exact this
theorem OT.op {t : TypeId} {fs : Array Field} {cs : List Value} {ti tp : TypeId} (h : OT enc P w base spare held t cs) (ht : P.underlying t = some (.struct fs)) (hfs : fs.toList.map (fun f => (f.offset, f.type)) = [(0, ti), (1, ti), (2, ti), (3, ti), (4, tp)]) (hi : P.underlying ti = some (.int .i64))
    (hz : (P.cellsOf ti, P.cellsOf tp, P.cellsOf t) = (1, 17, 21)) (hP : ∀ cs, OT enc P w base spare held tp cs → ∃ p : PG, cs = pgV p ∧ POk p) : ∃ o : OP, cs = opV o ∧ OpOk o := by
  simp only [Prod.mk.injEq] at hz
  obtain ⟨z1, z2, z3⟩ := hz
  obtain ⟨f1, f2, f3, f4, f5, hf⟩ : ∃ f1 f2 f3 f4 f5, fs = #[f1, f2, f3, f4, f5] := by
    have : fs.toList.length = 5 := by simpa using congrArg List.length hfs
    rcases fs with ⟨l⟩
    match l, this with
    | [f1, f2, f3, f4, f5], _ => exact ⟨f1, f2, f3, f4, f5, rfl⟩
  subst hf
  simp only [List.map_cons, List.map_nil, List.cons.injEq, Prod.mk.injEq, and_true] at hfs
  obtain ⟨⟨a1, b1⟩, ⟨a2, b2⟩, ⟨a3, b3⟩, ⟨a4, b4⟩, a5, b5⟩ := hfs
  have l0 := h.len ht
  rw [z3] at l0
  have x1 := h.fld ht (i := 0) (fd := f1) rfl
  have x2 := h.fld ht (i := 1) (fd := f2) rfl
  have x3 := h.fld ht (i := 2) (fd := f3) rfl
  have x4 := h.fld ht (i := 3) (fd := f4) rfl
  have x5 := h.fld ht (i := 4) (fd := f5) rfl
  rw [a1, b1, z1] at x1
  rw [a2, b2, z1] at x2
  rw [a3, b3, z1] at x3
  rw [a4, b4, z1] at x4
  rw [a5, b5, z2] at x5
  obtain ⟨k, e1, k1, k2⟩ := x1.i64 hi
  obtain ⟨n, e2, n1, n2⟩ := x2.i64 hi
  obtain ⟨i, e3, i1, i2⟩ := x3.i64 hi
  obtain ⟨m, e4, m1, m2⟩ := x4.i64 hi
  obtain ⟨p, e5, p1⟩ := hP _ x5
  refine ⟨⟨k, n, i, m, p⟩, ?_, k1, k2, n1, n2, i1, i2, m1, m2, p1⟩
  have g : ∀ (q : Nat), cs.drop q = (cs.drop q).take 1 ++ cs.drop (q + 1) := fun q => by
    have := List.take_append_drop 1 (cs.drop q)
    rwa [List.drop_drop, eq_comm] at this
  have g5 : (cs.drop 4).take 17 = cs.drop 4 := List.take_of_length_le (by rw [List.length_drop]; omega)
  rw [← List.drop_zero (l := cs), g 0, e1, g 1, e2, g 2, e3, g 3, e4, ← g5, e5]
  rfl
end
end Go.Q
namespace Go.Q
theorem thereF {s : SS} {id : Int} (h : id < 0 ∨ (s.pl.length : Int) ≤ id) : thereP s id = false := by
  cases h2 : thereP s id
  · rfl
  · rw [thereP_iff] at h2; omega
theorem SRel.image' {s r : SS} (h : SRel s r) {id : Int} {x : List UInt8} (h0 : 0 ≤ id) (hx : r.pl[id.toNat]? = some x) : sImage s id = (x, 0) := by
  obtain ⟨k, rfl⟩ := Int.eq_ofNat_of_zero_le h0
  exact h.image hx
end Go.Q
namespace Go.Q
theorem stamp_image {k : Nat} {p : PG} (hp : POk p) (hr : rightP p = true) : stampS (imageS k p) = (p.lsn, true) := by
  obtain ⟨_, a2, _, a4, a5⟩ := image_mid (id := k) hp.len hr
  rw [stampS_not a5 a4, a2, unbe_be 8 p.lsn hp.lsn]
theorem sNew_at {pages : Int} {k : Nat} (h : k < numPl pages) : (sNew pages).pl[k]? = some (imageS k noPg) := by
  simp only [sNew, List.getElem?_map, List.getElem?_range h]
  rfl
theorem sNew_len (pages : Int) : (sNew pages).pl.length = numPl pages := by simp [sNew]
theorem sNew_busy (pages n id : Int) : busyS (sNew pages) n id = false := by
  cases h : busyS (sNew pages) n id
  · rfl
  · obtain ⟨i, a, ha, hu, _⟩ := busyS_iff.1 h
    have := List.mem_of_getElem? ha
    simp only [sNew] at this
    rw [List.eq_of_mem_replicate this] at hu
    cases hu
theorem noPg_right : rightP noPg = true := by decide
/-- A first Write onto a new store, whole. -/
theorem sWrite_first {pages n id : Int} {p : PG} (hp : POk p) (hr : rightP p = true) (hl : 0 < p.lsn) (hn : nodeP n = true) (hi : 0 ≤ id) (hi2 : id < numPl pages) :
    (sWrite (sNew pages) n id p 15).2 = 0 ∧ sRead (sWrite (sNew pages) n id p 15).1 id = (p, 0) ∧ (sWrite (sNew pages) n id p 15).1.pl.length = numPl pages := by
  obtain ⟨k, rfl⟩ := Int.eq_ofNat_of_zero_le hi
  have hnp : numPl pages ≤ 32 := by unfold numPl; omega
  have hk : k < numPl pages := by omega
  have ht : thereP (sNew pages) (k : Int) = true := thereP_iff.2 (by rw [sNew_len]; omega)
  have hx := plAt_eq (sNew_at hk)
  have hnum : numberP (k : Int) = true := numberP_iff.2 (by omega)
  have hen := encS_yes hnum hr
  have h15 : wholeP 15 = true := by decide
  have hW := sWrite_yes (s := sNew pages) (n := n) (id := (k : Int)) (p := p) (m := 15) ⟨hn, ht, h15⟩ (by rw [hen]) (sNew_busy _ _ _) (by rw [hx, stamp_image noPg_ok noPg_right]; simp [noPg]; omega)
  rw [if_pos rfl, hen] at hW
  simp only [Int.toNat_natCast] at hW
  rw [hW]
  refine ⟨rfl, ?_, by simp [sNew_len]⟩
  have hset : ((sNew pages).pl.set k (layB (plAt (sNew pages) (k : Int)) (imageS k p) (Int.toNat 15 / 4)))[k]? = some (imageS k p) := by
    rw [set_get (by rw [sNew_len]; exact hk), if_pos rfl, layB_3 (by decide)]
  rw [sRead, if_pos (thereP_iff.2 (by simp [sNew_len]; omega)), plAt_eq hset]
  have := dec_enc hnum hp.len hr
  simpa using this
end Go.Q
