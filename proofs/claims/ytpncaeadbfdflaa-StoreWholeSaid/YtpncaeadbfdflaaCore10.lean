/- Things of many cells: parts of them, their equality, stores of them. Conditions: none. -/
import Derived.Test.YtpncaeadbfdflaaCore9
import Derived.Laws.StructEq
import Derived.ChangeKeysEq
set_option linter.unusedSimpArgs false
set_option linter.unusedVariables false
namespace Go.Q
open Go.RowKit
section
variable {P : Program} {ops : Array Oper} {n : Nat} {Q : Exit → Act → World → Prop} {S : World → Prop} {cl : Nat → Cl} {i : Nat} {l : List Nat} {f : Nat → Value} {w : World}
variable {x y : Operand} {t t1 t2 : TypeId} {pos : String} {aft : Array Edge} {g : Option (Nat × Bool)} {d : Tmp} {dd : Option Tmp} {de : TypeDesc} {sz e : Nat}

/-! ### 1. Equality -/
def EqV (P : Program) (k : Nat) (t : TypeId) (x y : Value) (r : Bool) : Prop := ∀ d w, k ≤ d → (Op.equalIn d t x y).run P w = .ok r w
theorem EqV.int {k k' : IntKind} {a b : Int} (h : P.underlying t = some (.int k')) : EqV P 1 t (.int k a) (.int k b) (decide (a = b)) := fun d w hd => by
  obtain ⟨d, rfl⟩ : ∃ d', d = d' + 1 := ⟨d - 1, by omega⟩
  exact run_equalIn_int w d t k k' a b h
theorem EqV.bool {a b : Bool} (h : P.underlying t = some .bool) : EqV P 1 t (.bool a) (.bool b) (a == b) := fun d w hd => by
  obtain ⟨d, rfl⟩ : ∃ d', d = d' + 1 := ⟨d - 1, by omega⟩
  exact run_equalIn_bool' w d t a b h
theorem EqV.str {a b : List UInt8} (h : P.underlying t = some .string) : EqV P 1 t (T a) (T b) (a == b) := fun d w hd => by
  obtain ⟨d, rfl⟩ : ∃ d', d = d' + 1 := ⟨d - 1, by omega⟩
  have := run_equalIn_string (P := P) w d t ⟨⟨a⟩⟩ ⟨⟨b⟩⟩ h
  rwa [ba_toList, ba_toList] at this
theorem EqV.mono {k k' : Nat} {u v : Value} {r : Bool} (h : EqV P k t u v r) (hk : k ≤ k') : EqV P k' t u v r := fun d w hd => h d w (by omega)
theorem EqV.cast {k : Nat} {u v : Value} {r r' : Bool} (h : EqV P k t u v r) (hr : r = r') : EqV P k t u v r' := hr ▸ h
/-- A part of a thing of many cells. -/
def Part (P : Program) (t : TypeId) (xs : List Value) (off : Nat) (a : Value) : Prop := ∀ w, (part t ⟨xs⟩ off).run P w = .ok a w
theorem Part.one {xs : List Value} {off : Nat} {a : Value} (h : P.underlying t = some de) (hd : flat de = true) (hx : xs[off]? = some a) : Part P t xs off a := fun w => by
  have e : (⟨xs⟩ : Array Value)[off]? = some a := by simpa using hx
  simp [part, isAgg_flat h hd, e]
theorem Part.many {xs as : List Value} {off : Nat} (h : Sz P t de sz) (hd : flat de = false) (hx : (xs.drop off).take sz = as) : Part P t xs off (.agg ⟨as⟩) := fun w => by
  have e : (⟨xs⟩ : Array Value).extract off (off + sz) = ⟨as⟩ := by
    apply Array.ext'
    rw [Array.toList_extract]
    simpa [List.extract] using hx
  have e' : (List.take sz (List.drop off xs)).toArray = ⟨as⟩ := by rw [hx]
  simp [part, isAgg_not h.u hd, sizeOf_run h, e']
def EqF (P : Program) (k : Nat) (xs ys : List Value) : List Field → Bool → Prop
  | [], r => r = true
  | f :: fs, r => (f.name != "_") = true ∧ ∃ a b r1 r2, Part P f.type xs f.offset a ∧ Part P f.type ys f.offset b ∧ EqV P k f.type a b r1 ∧ EqF P k xs ys fs r2 ∧ r = (r1 && r2)
theorem EqF.run {k : Nat} {xs ys : List Value} : ∀ {fs : List Field} {r : Bool}, EqF P k xs ys fs r → ∀ d w, k ≤ d → (Op.eqFields d ⟨xs⟩ ⟨ys⟩ fs).run P w = .ok r w
  | [], r, h, d, w, _ => by
    rw [show r = true from h]
    rfl
  | f :: fs, r, ⟨hn, a, b, r1, r2, ha, hb, h1, h2, hr⟩, d, w, hd => by
    have hn' : f.name ≠ "_" := by simpa using hn
    simp only [Op.eqFields]
    rw [if_pos hn']
    simp only [Sem.run_bind, ha w, hb w, Result.andThen_ok, h1 d w hd]
    cases r1 with
    | false => simp [hr]
    | true =>
      simp only [Bool.not_true, Bool.false_eq_true, if_false]
      rw [EqF.run h2 d w hd, hr, Bool.true_and]
theorem EqV.struct {k : Nat} {xs ys : List Value} {fs : Array Field} {r : Bool} (ht : P.underlying t = some (.struct fs)) (hp : P.stoodInHeld t = false) (h : EqF P k xs ys fs.toList r) : EqV P (k + 1) t (.agg ⟨xs⟩) (.agg ⟨ys⟩) r := fun d w hd => by
  obtain ⟨d, rfl⟩ : ∃ d', d = d' + 1 := ⟨d - 1, by omega⟩
  have hf : P.fieldsOf t = fs := by simp [Program.fieldsOf, ht]
  rw [run_equalIn_struct w d t _ _ (by rw [hf]; exact ht) hp, hf]
  exact h.run d w (by omega)
theorem flat_drop {α : Type} (g : α → List Value) (hs : ∀ a, (g a).length = sz) : ∀ (l : List α) (i : Nat) (a : α), l[i]? = some a → ((l.flatMap g).drop (i * sz)).take sz = g a
  | [], i, a, h => by simp at h
  | b :: l, 0, a, h => by
    simp at h
    subst h
    rw [List.flatMap_cons, Nat.zero_mul, List.drop_zero, List.take_left' (hs _)]
  | b :: l, i + 1, a, h => by
    rw [List.flatMap_cons, Nat.succ_mul, Nat.add_comm, ← List.drop_drop, List.drop_left' (hs _)]
    exact flat_drop g hs l i a (by simpa using h)
theorem EqV.array {α : Type} [DecidableEq α] {k len : Nat} (g : α → List Value) (ht : P.underlying t = some (.array len e)) (he : Sz P e de sz) (hd : flat de = false) (hs : ∀ a, (g a).length = sz)
    (hE : ∀ a b, EqV P k e (.agg ⟨g a⟩) (.agg ⟨g b⟩) (decide (a = b))) {l l' : List α} (hl : l.length = len) (hl' : l'.length = len) : EqV P (k + 1) t (.agg ⟨l.flatMap g⟩) (.agg ⟨l'.flatMap g⟩) (decide (l = l')) := fun d w hdk => by
  obtain ⟨d, rfl⟩ : ∃ d', d = d' + 1 := ⟨d - 1, by omega⟩
  obtain ⟨i, hi, hisz⟩ := he.i
  have hc : P.cellsOf e = sz := by simp [Program.cellsOf, hi, hisz]
  rw [run_equalIn_array w d _ _ ht hi, hc]
  have key : ∀ (m s : Nat), s + m = len → (l.take s = l'.take s) → (Op.eqItems d e sz ⟨l.flatMap g⟩ ⟨l'.flatMap g⟩ (List.range' s m)).run P w = .ok (decide (l = l')) w := by
    intro m
    induction m with
    | zero =>
      intro s hs2 hts
      rw [List.take_of_length_le (by omega), List.take_of_length_le (by omega)] at hts
      simp [hts, Op.eqItems]
    | succ m ih =>
      intro s hs2 hts
      have h1 : l[s]? = some (l[s]'(by omega)) := List.getElem?_eq_getElem (by omega)
      have h2 : l'[s]? = some (l'[s]'(by omega)) := List.getElem?_eq_getElem (by omega)
      generalize l[s]'(by omega) = a at h1
      generalize l'[s]'(by omega) = b at h2
      have pa : Part P e (l.flatMap g) (s * sz) (.agg ⟨g a⟩) := Part.many he hd (flat_drop g hs l s a h1)
      have pb : Part P e (l'.flatMap g) (s * sz) (.agg ⟨g b⟩) := Part.many he hd (flat_drop g hs l' s b h2)
      rw [List.range'_succ]
      simp only [Op.eqItems, Sem.run_bind, pa w, pb w, Result.andThen_ok, hE a b d w (by omega)]
      by_cases hab : a = b
      · subst hab
        simp only [decide_true, Bool.not_true, Bool.false_eq_true, if_false]
        refine ih (s + 1) (by omega) ?_
        rw [List.take_add_one, List.take_add_one, h1, h2, hts]
      · have hne : l ≠ l' := fun h => hab (by rw [h, h2] at h1; exact (Option.some.inj h1).symm)
        simp [hab, hne]
  rw [List.range_eq_range']
  exact key len 0 (by omega) rfl
theorem run_eqlA {xs ys : List Value} {r : Bool} {k : Nat} (hE : EqV P k t1 (.agg ⟨xs⟩) (.agg ⟨ys⟩) r) (hk : k ≤ 10000) (hm : P.eqGuardType P.depth t1 = false) (hx : op f x = .agg ⟨xs⟩) (hy : op f y = .agg ⟨ys⟩) :
    PR P f ⟨dd, .binOp .eql t1 x y t2, t, pos, aft, g⟩ (.bool r) := fun w => by
  simp only [execOp, hx, hy, Sem.run_bind, run_eqGuard_agg w .eql t1 x y _ _ hm, Result.andThen_ok, run_eql_struct, hE 10000 w hk]
  rfl
theorem run_neqA {xs ys : List Value} {r : Bool} {k : Nat} (hE : EqV P k t1 (.agg ⟨xs⟩) (.agg ⟨ys⟩) r) (hk : k ≤ 10000) (hm : P.eqGuardType P.depth t1 = false) (hx : op f x = .agg ⟨xs⟩) (hy : op f y = .agg ⟨ys⟩) :
    PR P f ⟨dd, .binOp .neq t1 x y t2, t, pos, aft, g⟩ (.bool (!r)) := fun w => by
  simp only [execOp, hx, hy, Sem.run_bind, run_eqGuard_agg w .neq t1 x y _ _ hm, Result.andThen_ok, run_neq_struct, hE 10000 w hk]
  rfl
/-! ### 2. Parts, told by what they are -/
theorem pr_fldE {fs : Array Field} {fd : Field} {ki : Nat} {cs cs' : List Value} (ht : P.underlying t1 = some (.struct fs)) (hf : fs[ki]? = some fd) (he : Sz P fd.type de sz) (hd : flat de = false) (hx : op f x = .agg ⟨cs⟩) (hr : (cs.drop fd.offset).take sz = cs') :
    PR P f ⟨dd, .field t1 x ki, t, pos, aft, g⟩ (.agg ⟨cs'⟩) := hr ▸ pr_fldA ht hf he hd hx
theorem pr_idxVE {len : Nat} {cs cs' : List Value} {k : IntKind} {a : Int} (ht : P.underlying t1 = some (.array len e)) (he : Sz P e de sz) (hd : flat de = false) (hx : op f x = .agg ⟨cs⟩) (hy : op f y = .int k a) (h0 : 0 ≤ a) (h1 : a < len) (hr : (cs.drop (a.toNat * sz)).take sz = cs') :
    PR P f ⟨dd, .index t1 x y, t, pos, aft, g⟩ (.agg ⟨cs'⟩) := hr ▸ pr_idxV ht he hd hx hy h0 h1
/-! ### 3. A store of many cells -/
theorem run_storeN {b o : Nat} {et : TypeId} {cs vs : List Value} (h : Blk w b et cs) (he : Sz P t1 de sz) (hx : op f x = .pointer (some ⟨b, o, none⟩)) (hv : op f y = .agg ⟨vs⟩) (hl : vs.length = sz) (h1 : ∀ v ∈ vs, v.oneCell' = true) (hfit : o + sz ≤ cs.length) :
    (execOp (op f) ⟨none, .store t1 x y, t, pos, aft, g⟩).run P w = .ok .skip (w.setRow b (cs.take o ++ vs ++ cs.drop (o + sz)).toArray) := by
  have hst := run_rowStore (P := P) b o et (0, 0) vs 0 ⟨cs⟩ w h (.inr rfl) (by simpa [hl] using hfit) h1
  simp only [Nat.add_zero, hl] at hst
  simp [execOp, hx, hv, Instr.storeAt, Instr.sureAddr, storeVar, Value.cells, sizeOf_run he, hl, hst]
theorem TF.storeN {O : List Nat} {w0 : World} {L : List Chk} {b o q : Nat} {et : TypeId} {cs vs cs' : List Value} (H : Sat O w0 w L) (hq : nth L q = some (cBlk b et cs)) (ho : ops[i]? = some ⟨none, .store t1 x y, t, pos, aft, g⟩) (hc : cl i = .X)
    (hg : wantF ops f ⟨none, .store t1 x y, t, pos, aft, g⟩ = true) (he : Sz P t1 de sz) (hx : op f x = .pointer (some ⟨b, o, none⟩)) (hv : op f y = .agg ⟨vs⟩) (hl : vs.length = sz) (h1 : ∀ v ∈ vs, v.oneCell' = true) (hfit : o + sz ≤ cs.length) (hr : cs.take o ++ vs ++ cs.drop (o + sz) = cs')
    (hk : ∀ w', Only [b] w w' → Sat O w0 w' (setAt L q (cBlk b et cs')) → TF P ops n Q S cl l f w') : TF P ops n Q S cl (i :: l) f w := by
  subst hr
  have hb := H.blk hq
  have hr := run_storeN (t := t) (pos := pos) (aft := aft) (g := g) hb he hx hv hl h1 hfit
  exact TF.xs ho hc hg hr (hk _ (only_setRow w b _) (H.setBlk hq (only_setRow w b _) (setRow_heap w b ⟨cs⟩ _ et (0, 0) hb)))
/-! ### 4. A load of many cells, told by what they are -/
theorem TF.loadE {b o et : Nat} {cs cs' : List Value} (ho : ops[i]? = some ⟨some d, .load t1 x, t, pos, aft, g⟩) (hc : cl i = .X) (hg : wantF ops f ⟨some d, .load t1 x, t, pos, aft, g⟩ = true) (he : Sz P t1 de sz) (hd : flat de = false)
    (hx : op f x = .pointer (some ⟨b, o, none⟩)) (hb : Blk w b et cs) (hl : cs'.length = sz) (hr : (cs.drop o).take sz = cs') (h : TF P ops n Q S cl l (upd f d (.agg ⟨cs'⟩)) w) : TF P ops n Q S cl (i :: l) f w := by
  subst hr
  exact TF.loadN ho hc hg he hd hx hl (hb.atN sz) h
theorem TF.loadEr {W : World} {b o et : Nat} {cs cs' : List Value} (ho : ops[i]? = some ⟨some d, .load t1 x, t, pos, aft, g⟩) (hc : cl i = .R) (hg : wantF ops f ⟨some d, .load t1 x, t, pos, aft, g⟩ = true) (he : Sz P t1 de sz) (hd : flat de = false)
    (hx : op f x = .pointer (some ⟨b, o, none⟩)) (hb : Blk W b et cs) (hl : cs'.length = sz) (hr : (cs.drop o).take sz = cs') (hS : ∀ w', S w' → Below W.heap.size W w') (h : TF P ops n Q S cl l (upd f d (.agg ⟨cs'⟩)) w) : TF P ops n Q S cl (i :: l) f w := by
  subst hr
  exact TF.loadNr ho hc hg he hd hx hl (fun w' hw => hb.atNB sz w' (hS w' hw)) h
/-! ### 5. Results that lie in memory -/
theorem run_loadBlk {b et : Nat} {ty : TypeId} {cs : List Value} (he : Sz P ty de sz) (hd : flat de = false) (h : Blk w b et cs) (hl : cs.length = sz) : (loadVar ty ⟨b, 0, none⟩).run P w = .ok (.agg ⟨cs⟩) w := by
  obtain ⟨i, hi, hs⟩ := he.i
  refine run_loadVar_row w b et ty ⟨cs⟩ (0, 0) de h he.u ?_ (by simp [hi, hs, hl])
  cases de <;> simp_all [flat]
section
variable {fn : Func} {R : Ending → World → Prop} {p u u2 b et : Nat} {ty : TypeId} {cs : List Value} {v v' : Value}
theorem finC1 (hr : fn.results = #[.cell p ty]) (hp : Nat.blt p n = true) (he : Sz P ty de sz) (hd : flat de = false) (hv : f p = .pointer (some ⟨b, 0, none⟩)) (hb : Blk w b et cs) (hl : cs.length = sz)
    (h : R (.returned (.agg ⟨cs⟩)) w) : bodyPost P fn R .ret (E n f) w := by
  refine ⟨rfl, _, ?_, h⟩
  have e : (results fn (E n f).tmps).run P w = ((asAddr ((E n f).tmps.getD p undef)).run P w).andThen fun a w₁ => (loadVar ty a).run P w₁ := by
    simp only [results, hr]
    simp [Sem.run_bind, Result.andThen]
  rw [e, E_getD hp, hv]
  simp only [asAddr, Sem.run_pure, Result.andThen_ok]
  exact run_loadBlk he hd hb hl
theorem finC2 (hr : fn.results = #[.cell p ty, .tmp u]) (hp : Nat.blt p n = true) (hu : Nat.blt u n = true) (he : Sz P ty de sz) (hd : flat de = false) (hv : f p = .pointer (some ⟨b, 0, none⟩)) (hb : Blk w b et cs) (hl : cs.length = sz) (hv1 : f u = v)
    (h : R (.returned (.tuple #[.agg ⟨cs⟩, v])) w) : bodyPost P fn R .ret (E n f) w := by
  refine ⟨rfl, _, ?_, h⟩
  have e : (results fn (E n f).tmps).run P w = ((asAddr ((E n f).tmps.getD p undef)).run P w).andThen fun a w₁ => ((loadVar ty a).run P w₁).andThen fun x w₂ => .ok (.tuple #[x, (E n f).tmps.getD u undef]) w₂ := by
    simp only [results, hr]
    simp [Sem.run_bind, Result.andThen]
  rw [e, E_getD hp, E_getD hu, hv, hv1]
  simp only [asAddr, Sem.run_pure, Result.andThen_ok, run_loadBlk he hd hb hl]
theorem finC3 (hr : fn.results = #[.cell p ty, .tmp u, .tmp u2]) (hp : Nat.blt p n = true) (hu : Nat.blt u n = true) (hu2 : Nat.blt u2 n = true) (he : Sz P ty de sz) (hd : flat de = false) (hv : f p = .pointer (some ⟨b, 0, none⟩)) (hb : Blk w b et cs) (hl : cs.length = sz) (hv1 : f u = v) (hv2 : f u2 = v')
    (h : R (.returned (.tuple #[.agg ⟨cs⟩, v, v'])) w) : bodyPost P fn R .ret (E n f) w := by
  refine ⟨rfl, _, ?_, h⟩
  have e : (results fn (E n f).tmps).run P w = ((asAddr ((E n f).tmps.getD p undef)).run P w).andThen fun a w₁ => ((loadVar ty a).run P w₁).andThen fun x w₂ => .ok (.tuple #[x, (E n f).tmps.getD u undef, (E n f).tmps.getD u2 undef]) w₂ := by
    simp only [results, hr]
    simp [Sem.run_bind, Result.andThen]
  rw [e, E_getD hp, E_getD hu, E_getD hu2, hv, hv1, hv2]
  simp only [asAddr, Sem.run_pure, Result.andThen_ok, run_loadBlk he hd hb hl]
end
theorem store_all {cs vs : List Value} (h : cs.length = sz) : cs.take 0 ++ vs ++ cs.drop (0 + sz) = vs := by
  rw [List.drop_eq_nil_of_le (by omega)]
  simp
/-! ### 6. copy into a slice that is owned -/
theorem cutA_at {b m l : Nat} (h : l < m) : cutA (some ⟨b, 0, none⟩) m l sz = some ⟨b, l * sz, none⟩ := by
  rw [cutA, if_neg (by omega)]
  simp [add_off]
end
end Go.Q
