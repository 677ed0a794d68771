/- The operations on memory, one law each. Conditions: none. -/
import Derived.Test.YtpncaeadbfdflaaCore4
set_option linter.unusedSimpArgs false
set_option linter.unusedVariables false
namespace Go.Q
open Go.RowKit

section
variable {P : Program} {ops : Array Oper} {n : Nat} {Q : Exit → Act → World → Prop} {S : World → Prop} {cl : Nat → Cl} {i : Nat} {l : List Nat}
variable {f : Nat → Value} {w w' W w0 : World} {d : Tmp} {dd : Option Tmp} {t t1 t2 e : TypeId} {pos : String} {aft : Array Edge} {g : Option (Nat × Bool)} {x y z : Operand} {v u : Value} {k k' : IntKind} {a r : Int} {p : Addr}
variable {O : List Nat} {L : List Chk} {A : Option Addr} {m c sz : Nat} {xs : List Value} {bs : List UInt8} {de ds : TypeDesc} {zv : Value} {by1 : Nat}

theorem blt {a b : Nat} (h : Nat.blt a b = true) : a < b := by rw [Nat.blt_eq] at h; exact h
/-- The operation's class: it may turn the world; S2: what the region's condition is behind it. -/
def Cx (cl : Nat → Cl) (i : Nat) (S : World → Prop) (S2 : World → World → Prop) (w : World) : Prop :=
  (cl i = .X ∧ ∀ w', S2 w' = S) ∨ (cl i = .P ∧ ∀ w', Below w.heap.size w w' → S2 w' w' ∧ ∀ x, S2 w' x → S x)
theorem Cx.xx (h : cl i = .X) : Cx cl i S (fun _ => S) w := .inl ⟨h, fun _ => rfl⟩
/-- The condition is laid anew: the world behind the operation, and what is below it. -/
theorem Cx.re {wr : World} (hb : Below wr.heap.size wr w) (h : cl i = .P) : Cx cl i (fun w' => Below wr.heap.size wr w') (fun w' x => Below w'.heap.size w' x) w :=
  .inr ⟨h, fun w' h' => ⟨Below.refl _ _, fun x hx => below_trans (below_trans hb h') hx⟩⟩
/-- The condition stays. -/
theorem Cx.no {wr : World} (hb : Below wr.heap.size wr w) (h : cl i = .P) : Cx cl i (fun w' => Below wr.heap.size wr w') (fun _ x => Below wr.heap.size wr x) w :=
  .inr ⟨h, fun w' h' => ⟨below_trans hb h', fun x hx => hx⟩⟩
theorem TF.cx {v : Value} {w' : World} {xo : Op} {S2 : World → World → Prop} (ho : ops[i]? = some ⟨some d, xo, t, pos, aft, g⟩) (hc : Cx cl i S S2 w) (hg : wantF ops f ⟨some d, xo, t, pos, aft, g⟩ = true)
    (hr : (execOp (op f) ⟨some d, xo, t, pos, aft, g⟩).run P w = .ok (.value v) w') (hb : Below w.heap.size w w') (h : TF P ops n Q (S2 w') cl l (upd f d v) w') : TF P ops n Q S cl (i :: l) f w := by
  rcases hc with ⟨hc, he⟩ | ⟨hc, hs⟩
  · rw [he] at h
    exact TF.x ho hc hg hr h
  · exact TF.p ho hc hg hr (hs _ hb).2 (hs _ hb).1 h

/-! ### lengths, cuts, places -/
theorem pr_len (hx : op f x = .slice A m c) (ht : P.underlying t1 = some (.slice e)) (hr : (m : Int) = r) : PR P f ⟨dd, .call ⟨.builtin .len, #[x], #[t1]⟩, t, pos, aft, g⟩ (.int .i64 r) := fun w => by
  subst hr
  simp [execOp, resolve, invoke, builtin, Builtin.len_, hx, underlying_run ht, goInt]
theorem pr_cut {lo hi mx : Option Operand} {l h mm : Nat} (ht : P.underlying t1 = some (.slice e)) (he : Sz P e de sz) (hx : op f x = .slice A m c)
    (hlo : (lo = none ∧ l = 0) ∨ ∃ o k, lo = some o ∧ op f o = .int k (l : Int)) (hhi : (hi = none ∧ mx = none ∧ h = m) ∨ ∃ o k, hi = some o ∧ op f o = .int k (h : Int))
    (hmx : (mx = none ∧ mm = c) ∨ ∃ o k, mx = some o ∧ op f o = .int k (mm : Int)) (h1 : l ≤ h) (h2 : h ≤ mm) (h3 : mm ≤ c) {n' c' : Nat} (hn' : h - l = n') (hc' : mm - l = c') :
    PR P f ⟨dd, .slice t1 x lo hi mx, t, pos, aft, g⟩ (.slice (cutA A mm l sz) n' c') := fun w => by
  subst hn' hc'
  unfold cutA
  have hsz := sizeOf_run he
  have i1 : ((0 : Int) ≤ (h : Int) ∧ (h : Int) ≤ (mm : Int)) := ⟨by omega, by omega⟩
  have i2 : ((0 : Int) ≤ (l : Int) ∧ (l : Int) ≤ (h : Int)) := ⟨by omega, by omega⟩
  have i3 : ((0 : Int) ≤ (mm : Int) ∧ (mm : Int) ≤ (c : Int)) := ⟨by omega, by omega⟩
  have j1 : ¬ ((mm : Int) < (h : Int)) := by omega
  have j2 : ¬ ((h : Int) < (l : Int)) := by omega
  have j3 : ¬ ((c : Int) < (mm : Int)) := by omega
  rcases hlo with ⟨rfl, rfl⟩ | ⟨o, k, rfl, ho⟩ <;> rcases hhi with ⟨rfl, rfl, rfl⟩ | ⟨o', k', rfl, ho'⟩ <;> rcases hmx with ⟨h5, rfl⟩ | ⟨o'', k'', h5, ho''⟩ <;>
    first
    | (cases h5; done)
    | ((try subst h5)
       simp [execOp, Instr.sliceAt, Instr.slice, Instr.sliceBounds, Instr.sliceBound, hx, underlying_run ht, asIntOf, hsz, *])
theorem pr_idx {ad : Addr} (ht : P.underlying t1 = some (.slice e)) (he : Sz P e de sz) (hx : op f x = .slice (some ad) m c) (hy : op f y = .int k a) (h0 : 0 ≤ a) (h1 : a < m) :
    PR P f ⟨dd, .indexAddr t1 x y, t, pos, aft, g⟩ (.pointer (some (ad.add (a.toNat * sz)))) := fun w => by
  simp [execOp, Instr.indexAt, hx, hy, asIntOf, underlying_run ht, sizeOf_run he, h0, h1]
theorem TF.idx (h : RdS W sz A m c xs) (ho : ops[i]? = some ⟨some d, .indexAddr t1 x y, t, pos, aft, g⟩) (hc : cl i = .U) (hg : wantF ops f ⟨some d, .indexAddr t1 x y, t, pos, aft, g⟩ = true)
    (ht : P.underlying t1 = some (.slice e)) (he : Sz P e de sz) (hx : op f x = .slice A m c) (hy : op f y = .int k a) (h0 : 0 ≤ a) (h1 : a < m)
    (hk : ∀ p : Addr, (∀ j u, j < sz → xs[a.toNat * sz + j]? = some u → W.cell? (p.add j) = some u) → TF P ops n Q S cl l (upd f d (.pointer (some p))) w) : TF P ops n Q S cl (i :: l) f w := by
  obtain ⟨ad, rfl, hcell⟩ := h.cells (by omega)
  refine TF.ug ho hc hg (pr_idx ht he hx hy h0 h1) (hk _ fun j u hj hu => ?_)
  rw [add_add]
  exact hcell _ _ hu
theorem TF.idxB (h : RdB W A m c bs) (ho : ops[i]? = some ⟨some d, .indexAddr t1 x y, t, pos, aft, g⟩) (hc : cl i = .U) (hg : wantF ops f ⟨some d, .indexAddr t1 x y, t, pos, aft, g⟩ = true)
    (ht : P.underlying t1 = some (.slice e)) (he : Sz P e de 1) (hx : op f x = .slice A m c) (hy : op f y = .int k a) (h0 : 0 ≤ a) (h1 : a < m)
    (hk : ∀ p : Addr, W.cell? p = some (.int .u8 ((bs.getD a.toNat 0).toNat : Int)) → TF P ops n Q S cl l (upd f d (.pointer (some p))) w) : TF P ops n Q S cl (i :: l) f w := by
  refine TF.idx h ho hc hg ht he hx hy h0 h1 fun p hp => hk p ?_
  have hl := h.length
  have := hp 0 (u8 (bs.getD a.toNat 0)) (by omega) (by
    have h2 : a.toNat < bs.length := by omega
    simp [u8s_get, List.getD, List.getElem?_eq_getElem h2])
  rw [add_zero] at this
  exact this
theorem pr_field {fs : Array Field} {fd : Field} {ki b o : Nat} {df : TypeDesc} (ht : P.underlying t1 = some (.struct fs)) (hf : fs[ki]? = some fd) (he : Sz P fd.type df sz) (hz : sz ≠ 0) (hx : op f x = .pointer (some ⟨b, o, none⟩)) {o' : Nat} (ho : o + fd.offset = o') :
    PR P f ⟨dd, .fieldAddr t1 x ki, t, pos, aft, g⟩ (.pointer (some ⟨b, o', none⟩)) := fun w => by
  subst ho
  simp [execOp, Instr.fieldAt, underlying_run ht, hf, hx, Instr.sureAddr, fieldPlace, sizeOf_run he, hz, add_off]
theorem pr_fieldP {fs : Array Field} {fd : Field} {ki : Nat} {df : TypeDesc} (ht : P.underlying t1 = some (.struct fs)) (hf : fs[ki]? = some fd) (he : Sz P fd.type df sz) (hz : sz ≠ 0) (hx : op f x = .pointer (some p)) {o' : Nat} (ho : fd.offset = o') :
    PR P f ⟨dd, .fieldAddr t1 x ki, t, pos, aft, g⟩ (.pointer (some (p.add o'))) := fun w => by
  subst ho
  simp [execOp, Instr.fieldAt, underlying_run ht, hf, hx, Instr.sureAddr, fieldPlace, sizeOf_run he, hz]
/-- &p[i] of an array behind a pointer. -/
theorem pr_idxA {len : Nat} (ht : P.underlying t1 = some (.array len e)) (he : Sz P e de sz) {b o : Nat} (hx : op f x = .pointer (some ⟨b, o, none⟩)) (hy : op f y = .int k a) (h0 : 0 ≤ a) (h1 : a < len) :
    PR P f ⟨dd, .indexAddr t1 x y, t, pos, aft, g⟩ (.pointer (some ⟨b, o + a.toNat * sz, none⟩)) := fun w => by
  simp [execOp, Instr.indexAt, hx, hy, asIntOf, underlying_run ht, Instr.sureAddr, sizeOf_run he, h0, h1, add_off]
/-- arr[i] of an array that lies in the frame. -/
theorem pr_idxV {len : Nat} {cs : List Value} (ht : P.underlying t1 = some (.array len e)) (he : Sz P e de sz) (hd : flat de = false) (hx : op f x = .agg ⟨cs⟩) (hy : op f y = .int k a) (h0 : 0 ≤ a) (h1 : a < len) :
    PR P f ⟨dd, .index t1 x y, t, pos, aft, g⟩ (.agg ⟨(cs.drop (a.toNat * sz)).take sz⟩) := fun w => by
  have e : (⟨cs⟩ : Array Value).extract (a.toNat * sz) (a.toNat * sz + sz) = ⟨(cs.drop (a.toNat * sz)).take sz⟩ := by
    apply Array.ext'
    simp [List.drop_take, List.extract_eq_take_drop]
  simp [execOp, Instr.index, hx, hy, asIntOf, underlying_run ht, sizeOf_run he, h0, h1, part, isAgg_not he.u hd, e]
theorem pr_idxV1 {len : Nat} {cs : List Value} (ht : P.underlying t1 = some (.array len e)) (he : Sz P e de 1) (hd : flat de = true) (hx : op f x = .agg ⟨cs⟩) (hy : op f y = .int k a) (h0 : 0 ≤ a) (h1 : a < len) (hv : cs[a.toNat]? = some v) :
    PR P f ⟨dd, .index t1 x y, t, pos, aft, g⟩ v := fun w => by
  have e : (⟨cs⟩ : Array Value)[a.toNat]? = some v := by simpa using hv
  simp [execOp, Instr.index, hx, hy, asIntOf, underlying_run ht, sizeOf_run he, h0, h1, part, isAgg_flat he.u hd, hv]
/-- s.f of a struct that lies in the frame. -/
theorem pr_fld {fs : Array Field} {fd : Field} {ki : Nat} {cs : List Value} (ht : P.underlying t1 = some (.struct fs)) (hf : fs[ki]? = some fd) (he : P.underlying fd.type = some de) (hd : flat de = true) (hx : op f x = .agg ⟨cs⟩) (hv : cs[fd.offset]? = some v) :
    PR P f ⟨dd, .field t1 x ki, t, pos, aft, g⟩ v := fun w => by
  have e : (⟨cs⟩ : Array Value)[fd.offset]? = some v := by simpa using hv
  simp [execOp, Instr.field, hx, underlying_run ht, hf, asAgg, part, isAgg_flat he hd, hv]
theorem pr_fldA {fs : Array Field} {fd : Field} {ki : Nat} {cs : List Value} (ht : P.underlying t1 = some (.struct fs)) (hf : fs[ki]? = some fd) (he : Sz P fd.type de sz) (hd : flat de = false) (hx : op f x = .agg ⟨cs⟩) :
    PR P f ⟨dd, .field t1 x ki, t, pos, aft, g⟩ (.agg ⟨(cs.drop fd.offset).take sz⟩) := fun w => by
  have e : (⟨cs⟩ : Array Value).extract fd.offset (fd.offset + sz) = ⟨(cs.drop fd.offset).take sz⟩ := by
    apply Array.ext'
    simp [List.drop_take, List.extract_eq_take_drop]
  simp [execOp, Instr.field, hx, underlying_run ht, hf, asAgg, part, isAgg_not he.u hd, sizeOf_run he, e]

/-! ### loads -/
theorem run_load1 (hu : P.underlying t1 = some de) (hd : flat de = true) (hx : op f x = .pointer (some p)) (hc : w.cell? p = some v) : (execOp (op f) ⟨dd, .load t1 x, t, pos, aft, g⟩).run P w = .ok (.value v) w := by
  simp [execOp, hx, Instr.loadAt, Instr.sureAddr, loadVar, isAgg_flat hu hd, hc]
theorem run_loadN {cs : List Value} (he : Sz P t1 de sz) (hd : flat de = false) (hx : op f x = .pointer (some p)) (hl : cs.length = sz) (hc : ∀ j u, cs[j]? = some u → w.cell? (p.add j) = some u) :
    (execOp (op f) ⟨dd, .load t1 x, t, pos, aft, g⟩).run P w = .ok (.value (.agg ⟨cs⟩)) w := by
  subst hl
  have := run_loadCells_list (P := P) w p cs hc
  simp [execOp, hx, Instr.loadAt, Instr.sureAddr, loadVar, isAgg_not he.u hd, sizeOf_run he, this]
theorem TF.load (ho : ops[i]? = some ⟨some d, .load t1 x, t, pos, aft, g⟩) (hc : cl i = .X) (hg : wantF ops f ⟨some d, .load t1 x, t, pos, aft, g⟩ = true) (hu : P.underlying t1 = some de) (hd : flat de = true)
    (hx : op f x = .pointer (some p)) (hcell : w.cell? p = some v) (h : TF P ops n Q S cl l (upd f d v) w) : TF P ops n Q S cl (i :: l) f w := TF.x ho hc hg (run_load1 hu hd hx hcell) h
theorem TF.loadr (ho : ops[i]? = some ⟨some d, .load t1 x, t, pos, aft, g⟩) (hc : cl i = .R) (hg : wantF ops f ⟨some d, .load t1 x, t, pos, aft, g⟩ = true) (hu : P.underlying t1 = some de) (hd : flat de = true)
    (hx : op f x = .pointer (some p)) (hcell : ∀ w', S w' → w'.cell? p = some v) (h : TF P ops n Q S cl l (upd f d v) w) : TF P ops n Q S cl (i :: l) f w := TF.r ho hc hg (fun w' hw => run_load1 hu hd hx (hcell w' hw)) h
theorem TF.loadN {cs : List Value} (ho : ops[i]? = some ⟨some d, .load t1 x, t, pos, aft, g⟩) (hc : cl i = .X) (hg : wantF ops f ⟨some d, .load t1 x, t, pos, aft, g⟩ = true) (he : Sz P t1 de sz) (hd : flat de = false)
    (hx : op f x = .pointer (some p)) (hl : cs.length = sz) (hcell : ∀ j u, cs[j]? = some u → w.cell? (p.add j) = some u) (h : TF P ops n Q S cl l (upd f d (.agg ⟨cs⟩)) w) : TF P ops n Q S cl (i :: l) f w :=
  TF.x ho hc hg (run_loadN he hd hx hl hcell) h
theorem TF.loadNr {cs : List Value} (ho : ops[i]? = some ⟨some d, .load t1 x, t, pos, aft, g⟩) (hc : cl i = .R) (hg : wantF ops f ⟨some d, .load t1 x, t, pos, aft, g⟩ = true) (he : Sz P t1 de sz) (hd : flat de = false)
    (hx : op f x = .pointer (some p)) (hl : cs.length = sz) (hcell : ∀ w', S w' → ∀ j u, cs[j]? = some u → w'.cell? (p.add j) = some u) (h : TF P ops n Q S cl l (upd f d (.agg ⟨cs⟩)) w) : TF P ops n Q S cl (i :: l) f w :=
  TF.r ho hc hg (fun w' hw => run_loadN he hd hx hl (hcell w' hw)) h
/-- A cell of a block that is known whole. -/
theorem Blk.at_ {b o : Nat} {cs : List Value} (h : Blk w b e cs) (hv : cs[o]? = some v) : w.cell? ⟨b, o, none⟩ = some v := (h.cell o).trans hv
theorem Blk.atB {b o : Nat} {cs : List Value} (h : Blk W b e cs) (hv : cs[o]? = some v) : ∀ w', Below W.heap.size W w' → w'.cell? ⟨b, o, none⟩ = some v := fun w' hb => ((h.below hb).cell o).trans hv
theorem Blk.atN {b o : Nat} {cs : List Value} (h : Blk w b e cs) (sz : Nat) : ∀ j u, ((cs.drop o).take sz)[j]? = some u → w.cell? ((⟨b, o, none⟩ : Addr).add j) = some u := fun j u hu => by
  rw [add_off, h.cell]
  rw [List.getElem?_take] at hu
  split at hu
  · rw [← hu, List.getElem?_drop]
  · cases hu
theorem Blk.atNB {b o : Nat} {cs : List Value} (h : Blk W b e cs) (sz : Nat) : ∀ w', Below W.heap.size W w' → ∀ j u, ((cs.drop o).take sz)[j]? = some u → w'.cell? ((⟨b, o, none⟩ : Addr).add j) = some u := fun w' hb => (h.below hb).atN sz
theorem cellB (h : W.cell? p = some v) : ∀ w', Below W.heap.size W w' → w'.cell? p = some v := fun w' hb => below_cell hb h

/-! ### new variables -/
theorem TF.box {S2 : World → World → Prop} {cs : List Value} (H : Sat O w0 w L) (ho : ops[i]? = some ⟨some d, .box e x, t, pos, aft, g⟩) (hc : Cx cl i S S2 w) (hg : wantF ops f ⟨some d, .box e x, t, pos, aft, g⟩ = true) (hx : op f x = v) (hv : v.cells = ⟨cs⟩)
    (hk : ∀ b w', w.heap.size ≤ b → Below w.heap.size w w' → Sat O w0 w' (cBlk b e cs :: L) → TF P ops n Q (S2 w') cl l (upd f d (.pointer (some ⟨b, 0, none⟩))) w') : TF P ops n Q S cl (i :: l) f w := by
  refine TF.cx ho hc hg (w' := w.alloc (.cells ⟨cs⟩ e)) (v := .pointer (some ⟨w.heap.size, 0, none⟩)) ?_ (below_alloc w _) (hk _ _ (Nat.le_refl _) (below_alloc w _) (H.alloc e cs))
  simp [execOp, Instr.box, newVar, newRow, hx, hv]
theorem TF.alloc {S2 : World → World → Prop} {cs : List Value} (H : Sat O w0 w L) (ho : ops[i]? = some ⟨some d, .alloc e, t, pos, aft, g⟩) (hc : Cx cl i S S2 w) (hg : wantF ops f ⟨some d, .alloc e, t, pos, aft, g⟩ = true) (he : Ty P e de zv sz by1) (hv : zv.cells = ⟨cs⟩)
    (hk : ∀ b w', w.heap.size ≤ b → Below w.heap.size w w' → Sat O w0 w' (cBlk b e cs :: L) → TF P ops n Q (S2 w') cl l (upd f d (.pointer (some ⟨b, 0, none⟩))) w') : TF P ops n Q S cl (i :: l) f w := by
  refine TF.cx ho hc hg (w' := w.alloc (.cells ⟨cs⟩ e)) (v := .pointer (some ⟨w.heap.size, 0, none⟩)) ?_ (below_alloc w _) (hk _ _ (Nat.le_refl _) (below_alloc w _) (H.alloc e cs))
  obtain ⟨_, ti, hi, hz, _⟩ := he
  simp [execOp, Instr.alloc, newVar, newRow, hv, zeroValue, typeInfo, hi, hz]
/-- A literal slice: what append's further arguments are laid into. -/
def enumV : Nat → List Value → List (Nat × Value)
  | _, [] => []
  | k, v :: l => (k, v) :: enumV (k + 1) l
def flatV : List Value → List Value
  | [] => []
  | v :: l => v.cells.toList ++ flatV l
theorem set_cells (vs : List Value) (o : Nat) : ∀ (cs : List Value) (j : Nat), o + j + vs.length ≤ cs.length → (vs.zipIdx j).foldl (fun (cs : Array Value) (p : Value × Nat) => cs.setIfInBounds (o + p.2) p.1) ⟨cs⟩ = ⟨cs.take (o + j) ++ vs ++ cs.drop (o + j + vs.length)⟩ := by
  induction vs with
  | nil => intro cs j h; simp
  | cons v vs ih =>
    intro cs j h
    simp only [List.zipIdx_cons, List.foldl_cons]
    have e : (⟨cs⟩ : Array Value).setIfInBounds (o + j) v = ⟨cs.set (o + j) v⟩ := by simp
    rw [e, ih (cs.set (o + j) v) (j + 1) (by simp at h ⊢; omega)]
    congr 1
    have hlt : o + j < cs.length := by simp at h; omega
    have e1 : (cs.set (o + j) v).take (o + (j + 1)) = cs.take (o + j) ++ [v] := by
      rw [show o + (j + 1) = (o + j) + 1 by omega, List.take_add_one, List.take_set_of_le (Nat.le_refl _)]
      simp [List.getElem?_set, hlt]
    have e2 : (cs.set (o + j) v).drop (o + (j + 1) + vs.length) = cs.drop (o + j + (vs.length + 1)) := by
      rw [List.drop_set_of_lt (by omega)]
      congr 1
      omega
    rw [e1, e2]
    simp [List.append_assoc]
theorem fill_enum (sz : Nat) : ∀ (vs : List Value) (k : Nat) (cs : List Value), (∀ v ∈ vs, v.cells.size = sz) → cs.length = (k + vs.length) * sz →
    Instr.fill (fun i => some (i * sz, sz)) ⟨cs⟩ (enumV k vs) = some ⟨cs.take (k * sz) ++ flatV vs⟩ := by
  intro vs
  induction vs with
  | nil =>
    intro k cs _ hl
    simp only [enumV, Instr.fill, flatV, List.append_nil]
    rw [List.take_of_length_le (by simp at hl; omega)]
  | cons v vs ih =>
    intro k cs h hl
    have hv : v.cells.size = sz := h v List.mem_cons_self
    have hle : k * sz + sz ≤ cs.length := by
      rw [hl]
      have : (k + 1) * sz ≤ (k + (v :: vs).length) * sz := Nat.mul_le_mul_right _ (by simp)
      rw [Nat.add_mul, Nat.one_mul] at this
      exact this
    simp only [enumV, Instr.fill]
    rw [if_neg (by simp [hv]; omega)]
    have hvl : v.cells.toList.length = sz := by simpa using hv
    have hset := set_cells v.cells.toList (k * sz) cs 0 (by rw [hvl]; simpa using hle)
    have e : (v.cells.zipIdx.foldl (fun (cs : Array Value) (x : Value × Nat) => cs.setIfInBounds (k * sz + x.2) x.1) ⟨cs⟩) = ⟨cs.take (k * sz) ++ v.cells.toList ++ cs.drop (k * sz + v.cells.toList.length)⟩ := by
      rw [← Array.foldl_toList, Array.toList_zipIdx]
      simpa using hset
    have e' : (v.cells.zipIdx.foldl (fun cs x => match x with | (c, j) => cs.setIfInBounds (k * sz + j) c) (⟨cs⟩ : Array Value)) = ⟨cs.take (k * sz) ++ v.cells.toList ++ cs.drop (k * sz + v.cells.toList.length)⟩ := e
    rw [e', ih (k + 1) _ (fun u hu => h u (List.mem_cons_of_mem _ hu)) ?_]
    · simp only [flatV]
      congr 2
      rw [show (k + 1) * sz = k * sz + sz by rw [Nat.add_mul, Nat.one_mul]]
      have hp : (cs.take (k * sz) ++ v.cells.toList).length = k * sz + sz := by rw [List.length_append, List.length_take, hvl]; omega
      rw [← hp, List.take_left, List.append_assoc]
    · simp only [List.length_append, List.length_take, List.length_drop, hvl, List.length_cons] at hl ⊢
      have : (k + 1 + vs.length) * sz = (k + (vs.length + 1)) * sz := by congr 1; omega
      omega
theorem TF.lit {S2 : World → World → Prop} {len : Nat} {parts : Array (Nat × Operand)} {vs : List Value} (H : Sat O w0 w L) (ho : ops[i]? = some ⟨some d, .buildSlice t1 len parts, t, pos, aft, g⟩) (hc : Cx cl i S S2 w)
    (hg : wantF ops f ⟨some d, .buildSlice t1 len parts, t, pos, aft, g⟩ = true) (ht : P.underlying t1 = some (.slice e)) (he : Ty P e de zv sz by1) (hzc : zv.cells.size = sz) (hz : Nat.blt 0 (len * sz) = true) (hs : Nat.ble (len * sz) 16777216 = true)
    (hp : parts.toList.map (fun (p : Nat × Operand) => (p.1, op f p.2)) = enumV 0 vs) (hlen : vs.length = len) (hall : (vs.all fun v => v.cells.size == sz) = true)
    (hk : ∀ b w', w.heap.size ≤ b → Below w.heap.size w w' → Sat O w0 w' (cBlk b e (flatV vs) :: L) → TF P ops n Q (S2 w') cl l (upd f d (.slice (some ⟨b, 0, none⟩) len len)) w') : TF P ops n Q S cl (i :: l) f w := by
  refine TF.cx ho hc hg (w' := w.alloc (.cells ⟨flatV vs⟩ e)) (v := .slice (some ⟨w.heap.size, 0, none⟩) len len) ?_ (below_alloc w _) (hk _ _ (Nat.le_refl _) (below_alloc w _) (H.alloc e (flatV vs)))
  obtain ⟨_, ti, hi, hzv, hsz, _⟩ := he
  have h1 : ¬ (len * sz > 2 ^ 24) := by have := Nat.le_of_ble_eq_true hs; omega
  have h2 : ¬ (len * sz = 0) := by have := blt hz; omega
  subst hsz
  have hpp : (parts.map fun (x : Nat × Operand) => (x.1, op f x.2)) = ⟨enumV 0 vs⟩ := by
    apply Array.ext'
    rw [Array.toList_map]
    exact hp
  have hall' : ∀ v ∈ vs, v.cells.size = ti.size := fun v hv => by simpa using List.all_eq_true.1 hall v hv
  have hfill := fill_enum ti.size vs 0 (((Array.range (len * ti.size)).map (zv.cells[· % zv.cells.size]!)).toList) hall' (by simp [hlen])
  simp only [Nat.zero_mul, List.take_zero, List.nil_append] at hfill
  have hfill' : Instr.fill (fun i => some (i * ti.size, ti.size)) ((Array.range (len * ti.size)).map (zv.cells[· % zv.cells.size]!)) (enumV 0 vs) = some ⟨flatV vs⟩ := hfill
  have hpp' : (parts.map fun x => match x with | (i, x) => (i, op f x)) = ⟨enumV 0 vs⟩ := hpp
  simp only [execOp, Instr.buildSlice, hpp', Sem.run_bind, underlying_run ht, Result.andThen_ok, sizeOf, typeInfo, run_program, hi, Sem.run_pure, zeroValue, hzv]
  rw [if_neg h1, if_neg h2]
  simp only [Sem.run_bind, Sem.run_pure, Result.andThen_ok, run_program, hi, hzv, hfill', newRow, run_newObj]
  rfl
/-- What a literal's block is, as a slice that is owned. -/
theorem Blk.own {b : Nat} {cs : List Value} (h : Blk w b e cs) (m : Nat) (hl : cs.length = m * sz) (hm : m ≤ maxLen) : OwnS w e sz (some ⟨b, 0, none⟩) m m cs :=
  ⟨hl, Nat.le_refl _, hm, .inr ⟨b, ⟨cs⟩, (0, 0), rfl, h, by simpa using hl, .inr rfl, by simp [← hl]⟩⟩

/-! ### stores -/
theorem run_store1 (he : Sz P t1 de 1) (hx : op f x = .pointer (some p)) (hv : op f y = v) (h1 : v.oneCell' = true) {old : Value} (hc : w.cell? p = some old) (hf : w.frozen? p = false) :
    (execOp (op f) ⟨none, .store t1 x y, t, pos, aft, g⟩).run P w = .ok .skip (w.setCell p v) := by
  have hcs : v.cells = #[v] := by cases v <;> simp [Value.cells, Value.oneCell'] at h1 ⊢
  have hst : (store p v).run P w = .ok () (w.setCell p v) := by
    rw [run_store P w p v .plain h1]
    simp [stored, hc, hf]
  simp [execOp, hx, hv, Instr.storeAt, Instr.sureAddr, storeVar, hcs, sizeOf_run he, storeCells, add_zero, hst]
theorem TF.store {b o : Nat} {cs : List Value} {q : Nat} (H : Sat O w0 w L) (hq : nth L q = some (cBlk b e cs)) (ho : ops[i]? = some ⟨none, .store t1 x y, t, pos, aft, g⟩) (hc : cl i = .X)
    (hg : wantF ops f ⟨none, .store t1 x y, t, pos, aft, g⟩ = true) (he : Sz P t1 de 1) (hx : op f x = .pointer (some ⟨b, o, none⟩)) (hv : op f y = v) (h1 : v.oneCell' = true) (hlt : Nat.blt o cs.length = true)
    (hk : ∀ w', Only [b] w w' → Sat O w0 w' (setAt L q (cBlk b e (cs.set o v))) → TF P ops n Q S cl l f w') : TF P ops n Q S cl (i :: l) f w := by
  have hb := H.blk hq
  have hlt' : o < cs.length := blt hlt
  refine TF.xs ho hc hg (run_store1 he hx hv h1 (hb.at_ (List.getElem?_eq_getElem hlt')) (hb.frozen o)) (hk _ (Only.setCell w ⟨b, o, none⟩ v) (H.setBlk hq (Only.setCell w ⟨b, o, none⟩ v) (hb.set o v)))
end
end Go.Q
