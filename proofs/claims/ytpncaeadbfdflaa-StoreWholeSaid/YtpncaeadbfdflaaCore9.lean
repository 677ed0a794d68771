/- Structs that are built; pointers against nil. Conditions: none. -/
import Derived.Test.YtpncaeadbfdflaaCore8
import Derived.Laws.Tables
set_option linter.unusedSimpArgs false
set_option linter.unusedVariables false
namespace Go.Q
open Go.RowKit
/-- A struct type's zero, cell by cell, and its fields' places. -/
def Bld (P : Program) (t : TypeId) (zcs : List Value) (pl : List (Nat × Nat)) : Prop :=
  (match P.info? t, P.underlying t with
    | some it, some (.struct fields) => (it.zero.map (·.cells.toList), fields.toList.mapM (fun f => (P.info? f.type).map fun i => (f.offset, i.size)))
    | _, _ => (none, none)) = (some zcs, some pl)
theorem bld_mk {P : Program} {t : TypeId} {zcs : List Value} {pl : List (Nat × Nat)} (h : (match P.info? t, P.underlying t with
    | some it, some (.struct fields) => (it.zero.map (·.cells.toList), fields.toList.mapM (fun f => (P.info? f.type).map fun i => (f.offset, i.size)))
    | _, _ => (none, none)) = (some zcs, some pl)) : Bld P t zcs pl := h
def fillL (pl : List (Nat × Nat)) : List Value → List (Nat × Value) → Option (List Value)
  | cs, [] => some cs
  | cs, (i, v) :: r =>
    match pl[i]? with
    | none => none
    | some (off, size) => bif Nat.beq v.cells.toList.length size && Nat.ble (off + size) cs.length then fillL pl (cs.take off ++ v.cells.toList ++ cs.drop (off + size)) r else none
theorem fillL_fill (pl : List (Nat × Nat)) : ∀ (vs : List (Nat × Value)) (cs r : List Value), fillL pl cs vs = some r → Instr.fill (pl.toArray[·]?) ⟨cs⟩ vs = some ⟨r⟩
  | [], cs, r, h => by
    simp only [fillL, Option.some.injEq] at h
    subst h
    rfl
  | (i, v) :: vs, cs, r, h => by
    unfold fillL at h
    unfold Instr.fill
    rw [show (pl.toArray[i]?) = pl[i]? by simp]
    cases hp : pl[i]? with
    | none => simp [hp] at h
    | some x =>
      obtain ⟨off, size⟩ := x
      simp only [hp] at h ⊢
      cases hc : (Nat.beq v.cells.toList.length size && Nat.ble (off + size) cs.length)
      · rw [hc] at h; cases h
      · rw [hc] at h
        simp only [Bool.and_eq_true] at hc
        have h1 : v.cells.toList.length = size := Nat.eq_of_beq_eq_true hc.1
        have h2 : off + size ≤ cs.length := Nat.le_of_ble_eq_true hc.2
        have h1' : v.cells.size = size := by simpa using h1
        have hset := set_cells v.cells.toList off cs 0 (by rw [h1]; simpa using h2)
        have e : (v.cells.zipIdx.foldl (fun cs x => match x with | (c, j) => cs.setIfInBounds (off + j) c) (⟨cs⟩ : Array Value)) = ⟨cs.take off ++ v.cells.toList ++ cs.drop (off + v.cells.toList.length)⟩ := by
          have e2 : (v.cells.zipIdx.foldl (fun (cs : Array Value) (x : Value × Nat) => cs.setIfInBounds (off + x.2) x.1) ⟨cs⟩) = ⟨cs.take off ++ v.cells.toList ++ cs.drop (off + v.cells.toList.length)⟩ := by
            rw [← Array.foldl_toList, Array.toList_zipIdx]
            simpa using hset
          exact e2
        rw [if_neg (by simp only [h1', ne_eq, not_true_eq_false, Bool.or_eq_true, decide_eq_true_eq, false_or]; simpa using h2), e, h1]
        exact fillL_fill pl vs _ r h
section
variable {P : Program} {ops : Array Oper} {n : Nat} {Q : Exit → Act → World → Prop} {S : World → Prop} {cl : Nat → Cl} {i : Nat} {l : List Nat}
variable {f : Nat → Value} {w w' W w0 : World} {d : Tmp} {dd : Option Tmp} {t t1 t2 e : TypeId} {pos : String} {aft : Array Edge} {g : Option (Nat × Bool)} {x y z : Operand} {v u : Value}
theorem pr_build {parts : Array (Nat × Operand)} {zcs cs : List Value} {pl : List (Nat × Nat)} {vs : List (Nat × Value)} (hb : Bld P t1 zcs pl) (hp : parts.toList.map (fun (p : Nat × Operand) => (p.1, op f p.2)) = vs) (hf : fillL pl zcs vs = some cs) :
    PR P f ⟨dd, .build t1 parts, t, pos, aft, g⟩ (.agg ⟨cs⟩) := fun w => by
  have hfill := fillL_fill pl vs zcs cs hf
  have hpp : (parts.map fun (x : Nat × Operand) => (x.1, op f x.2)) = ⟨vs⟩ := by
    apply Array.ext'
    rw [Array.toList_map]
    exact hp
  have hpp' : (parts.map fun x => match x with | (i, x) => (i, op f x)) = ⟨vs⟩ := hpp
  have hbuilt : P.built t1 vs = some ⟨cs⟩ := by
    unfold Bld at hb
    unfold Program.built
    cases hit : P.info? t1 with
    | none => simp [hit] at hb
    | some it =>
      cases hu : P.underlying t1 with
      | none => simp [hit, hu] at hb
      | some dsc =>
        cases dsc <;> simp only [hit, hu, Prod.mk.injEq, reduceCtorEq, and_self, and_false, false_and] at hb
        case struct fields =>
          obtain ⟨h1, h2⟩ := hb
          cases hz : it.zero with
          | none => simp [hz] at h1
          | some zv =>
            simp only [hz, Option.map_some, Option.some.injEq] at h1
            have e : zv.cells = ⟨zcs⟩ := by apply Array.ext'; exact h1
            simp only [hz, h2, e]
            exact hfill
  have hr := run_build (P := P) w t1 ⟨vs⟩ ⟨cs⟩ (by simpa using hbuilt)
  simp only [execOp, hpp', Sem.run_bind, hr, Result.andThen_ok]
  rfl
theorem equal_ptr {p : Option Addr} (ht : P.underlying t1 = some (.pointer e)) (w : World) : (Op.equal t1 (.pointer p) (.pointer none)).run P w = .ok p.isNone w := by
  have : ∀ d, (Op.equalIn (d + 1) t1 (.pointer p) (.pointer none)).run P w = .ok p.isNone w := fun d => by
    cases p <;> simp [Op.equalIn, run_underlying ht]
  exact this 9999
theorem pr_peql {p : Option Addr} (ht : P.underlying t1 = some (.pointer e)) (hx : op f x = .pointer p) (hy : op f y = .pointer none) : PR P f ⟨dd, .binOp .eql t1 x y t2, t, pos, aft, g⟩ (.bool p.isNone) := fun w => by
  have e : binOp .eql t1 (.pointer p) (.pointer none) = (do pure (.bool (← Op.equal t1 (.pointer p) (.pointer none)))) := by cases p <;> rfl
  have hg : ∀ w, (eqGuard .eql t1 x y (.pointer p) (.pointer none)).run P w = .ok () w := fun w => by simp [eqGuard]
  simp only [execOp, hx, hy, Sem.run_bind, hg, Result.andThen_ok, e, equal_ptr ht]
  rfl
theorem pr_pneq {p : Option Addr} (ht : P.underlying t1 = some (.pointer e)) (hx : op f x = .pointer p) (hy : op f y = .pointer none) : PR P f ⟨dd, .binOp .neq t1 x y t2, t, pos, aft, g⟩ (.bool (!p.isNone)) := fun w => by
  have e : binOp .neq t1 (.pointer p) (.pointer none) = (do pure (.bool (!(← Op.equal t1 (.pointer p) (.pointer none))))) := by cases p <;> rfl
  have hg : ∀ w, (eqGuard .neq t1 x y (.pointer p) (.pointer none)).run P w = .ok () w := fun w => by simp [eqGuard]
  simp only [execOp, hx, hy, Sem.run_bind, hg, Result.andThen_ok, e, equal_ptr ht]
  rfl
end
/-- Two things are left, side by side, the rest is let go. -/
theorem Sat.two {O : List Nat} {w0 w : World} {L : List Chk} {a b : Chk} {i j : Nat} (H : Sat O w0 w L) (hi : nth L i = some a) (hj : nth (delAt L i) j = some b) : Sat O w0 w [a, b] := by
  have H1 := H.front i hi
  have H2 := H1.front (j + 1) hj
  have H3 : Sat O w0 w (a :: b :: delAt (delAt L i) j) := H2.front 1 rfl
  have hd : ∀ (M : List Chk), Sat O w0 w (a :: b :: M) → Sat O w0 w [a, b] := by
    intro M
    induction M with
    | nil => exact id
    | cons m M ih => exact fun h => ih (h.del 2)
  exact hd _ H3
theorem Sat.only1 {O : List Nat} {w0 w : World} {L : List Chk} {a : Chk} {i : Nat} (H : Sat O w0 w L) (hi : nth L i = some a) : Sat O w0 w [a] := by
  have H1 := H.front i hi
  have hd : ∀ (M : List Chk), Sat O w0 w (a :: M) → Sat O w0 w [a] := by
    intro M
    induction M with
    | nil => exact id
    | cons m M ih => exact fun h => ih (h.del 1)
  exact hd _ H1
theorem cutA_zero (A : Option Addr) (m sz : Nat) : cutA A m 0 sz = A := by
  unfold cutA
  split
  · rfl
  · cases A with
    | none => rfl
    | some a => simp [add_zero]
end Go.Q
