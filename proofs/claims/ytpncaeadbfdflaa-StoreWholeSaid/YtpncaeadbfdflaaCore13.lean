/- Arrays behind pointers: slices of them, writes into them and into rows, as raw cells. Conditions: none. -/
import Derived.Test.YtpncaeadbfdflaaCore12
set_option linter.unusedSimpArgs false
set_option linter.unusedVariables false
namespace Go.Q
open Go.RowKit
def cCells (b e : Nat) (fz : Nat × Nat) (cs : List Value) : Chk where
  p w F := w.heap[b]? = some (.cells ⟨cs⟩ e fz) ∧ (cs.length ≤ fz.1 ∨ fz = (0, 0)) ∧ F = [b]
  loc := fun h hk => ⟨(hk b (by simp [h.2.2])).trans h.1, h.2⟩
  inb := fun h k hk => by rw [h.2.2] at hk; simp at hk; subst hk; exact (Array.getElem?_eq_some_iff.1 h.1).1
section
variable {P : Program} {ops : Array Oper} {n : Nat} {Q : Exit → Act → World → Prop} {S : World → Prop} {cl : Nat → Cl} {i : Nat} {l : List Nat} {f : Nat → Value} {w : World}
variable {x y : Operand} {t t1 t2 : TypeId} {pos : String} {aft : Array Edge} {g : Option (Nat × Bool)} {d : Tmp} {dd : Option Tmp} {de : TypeDesc} {sz e : Nat}
/-- p[:] of an array behind a pointer. -/
theorem pr_cutArr {len : Nat} {b o : Nat} (ht : P.underlying t1 = some (.array len e)) (he : Sz P e de sz) (hx : op f x = .pointer (some ⟨b, o, none⟩)) :
    PR P f ⟨dd, .slice t1 x none none none, t, pos, aft, g⟩ (.slice (some ⟨b, o, none⟩) len len) := fun w => by
  have hsz := sizeOf_run he
  simp [execOp, Instr.sliceAt, Instr.sliceBounds, hx, underlying_run ht, Instr.sureAddr, hsz, add_off]
theorem TF.copyK {O : List Nat} {w0 : World} {L : List Chk} {q b et o dl dc m : Nat} {T1 T2 : TypeId} {vs news vs' : List Value} {v : Value} (H : Sat O w0 w L) (hq : nth L q = some (cBlk b et vs)) (ho : ops[i]? = some ⟨some d, .call ⟨.builtin .copy, #[x, y], #[T1, T2]⟩, t, pos, aft, g⟩) (hc : cl i = .X)
    (hg : wantF ops f ⟨some d, .call ⟨.builtin .copy, #[x, y], #[T1, T2]⟩, t, pos, aft, g⟩ = true) (hS : P.underlying T1 = some (.slice e)) (he : Sz P e de sz)
    (hx : op f x = .slice (some ⟨b, o, none⟩) dl dc) (hy : op f y = v) {m' : Nat} (hlo : ∀ w', (Builtin.lenOf v).run P w' = .ok m w') (hm : min m dl = m') (hs : (Builtin.firstCells sz m' v).run P w = .ok ⟨news⟩ w) (h1 : ∀ u ∈ news, u.oneCell' = true) (hfit : o + news.length ≤ vs.length)
    (hr : vs.take o ++ news ++ vs.drop (o + news.length) = vs')
    (hk : ∀ w', Only [b] w w' → Sat O w0 w' (setAt L q (cBlk b et vs')) → TF P ops n Q S cl l (upd f d (.int .i64 (m' : Int))) w') : TF P ops n Q S cl (i :: l) f w := by
  subst hr
  have hb := H.blk hq
  have hst := run_rowStore (P := P) b o et (0, 0) news 0 ⟨vs⟩ w hb (.inr rfl) (by simpa using hfit) h1
  simp only [Nat.add_zero] at hst
  have hset : Blk (w.setRow b (vs.take o ++ news ++ vs.drop (o + news.length)).toArray) b et (vs.take o ++ news ++ vs.drop (o + news.length)) := setRow_heap w b ⟨vs⟩ _ et (0, 0) hb
  refine TF.x ho hc hg (v := .int .i64 (m' : Int)) (w' := w.setRow b (vs.take o ++ news ++ vs.drop (o + news.length)).toArray) ?_ (hk _ (only_setRow w b _) (H.setBlk hq (only_setRow w b _) hset))
  have hm2 : Nat.min m dl = m' := hm
  have hlw := hlo w
  have hr : (Builtin.copy_ #[T1, T2] t #[.slice (some ⟨b, o, none⟩) dl dc, v]).run P w = .ok (goInt (m' : Int)) (w.setRow b (vs.take o ++ news ++ vs.drop (o + news.length)).toArray) := by
    simp [Builtin.copy_, run_underlying hS, hlw, hm2, sizeOf_run he, hs, hst]
  simp only [execOp, resolve, invoke, builtin, Sem.run_bind, Sem.run_pure, Result.andThen_ok, List.map_toArray, List.map_cons, List.map_nil, hx, hy, hr]
  rfl
theorem Sat.cells {O : List Nat} {w0 : World} {L : List Chk} {k b et : Nat} {fz : Nat × Nat} {cs : List Value} (H : Sat O w0 w L) (h : nth L k = some (cCells b et fz cs)) : w.heap[b]? = some (.cells ⟨cs⟩ et fz) ∧ (cs.length ≤ fz.1 ∨ fz = (0, 0)) := by
  obtain ⟨F, h1, h2, _⟩ := H.get h
  exact ⟨h1, h2⟩
theorem TF.storeC {O : List Nat} {w0 : World} {L : List Chk} {b o q et : Nat} {fz : Nat × Nat} {cs vs cs' : List Value} (H : Sat O w0 w L) (hq : nth L q = some (cCells b et fz cs)) (ho : ops[i]? = some ⟨none, .store t1 x y, t, pos, aft, g⟩) (hc : cl i = .X)
    (hg : wantF ops f ⟨none, .store t1 x y, t, pos, aft, g⟩ = true) (he : Sz P t1 de sz) (hx : op f x = .pointer (some ⟨b, o, none⟩)) (hv : op f y = .agg ⟨vs⟩) (hl : vs.length = sz) (h1 : ∀ v ∈ vs, v.oneCell' = true) (hfit : o + sz ≤ cs.length) (hr : cs.take o ++ vs ++ cs.drop (o + sz) = cs')
    (hk : ∀ w', Only [b] w w' → Sat O w0 w' (setAt L q (cCells b et fz cs')) → TF P ops n Q S cl l f w') : TF P ops n Q S cl (i :: l) f w := by
  subst hr
  obtain ⟨hb, hfz⟩ := H.cells hq
  have hst := run_rowStore (P := P) b o et fz vs 0 ⟨cs⟩ w hb hfz (by simpa [hl] using hfit) h1
  simp only [Nat.add_zero, hl] at hst
  have hrun : (execOp (op f) ⟨none, .store t1 x y, t, pos, aft, g⟩).run P w = .ok .skip (w.setRow b (cs.take o ++ vs ++ cs.drop (o + sz)).toArray) := by
    simp [execOp, hx, hv, Instr.storeAt, Instr.sureAddr, storeVar, Value.cells, sizeOf_run he, hl, hst]
  refine TF.xs ho hc hg hrun (hk _ (only_setRow w b _) (H.upd hq ⟨rfl, rfl, rfl, (only_setRow w b _).size⟩ fun F hF => ⟨F, ⟨setRow_heap w b ⟨cs⟩ _ et fz hb, ?_, hF.2.2⟩, fun j hj => .inl hj, fun j hj hn => (only_setRow w b _).block j hj (by rw [hF.2.2] at hn; exact hn)⟩))
  rcases hfz with h | h
  · left
    simp only [List.length_append, List.length_take, List.length_drop]
    omega
  · exact .inr h
/-- One cell of a block, at a place that is reckoned. -/
theorem TF.storeM {O : List Nat} {w0 : World} {L : List Chk} {b o et : Nat} {cs cs' : List Value} {q : Nat} {v : Value} (H : Sat O w0 w L) (hq : nth L q = some (cBlk b et cs)) (ho : ops[i]? = some ⟨none, .store t1 x y, t, pos, aft, g⟩) (hc : cl i = .X)
    (hg : wantF ops f ⟨none, .store t1 x y, t, pos, aft, g⟩ = true) (he : Sz P t1 de 1) (hx : op f x = .pointer (some ⟨b, o, none⟩)) (hv : op f y = v) (h1 : v.oneCell' = true) (hlt : o < cs.length) (hr : cs.set o v = cs')
    (hk : ∀ w', Only [b] w w' → Sat O w0 w' (setAt L q (cBlk b et cs')) → TF P ops n Q S cl l f w') : TF P ops n Q S cl (i :: l) f w := by
  subst hr
  have hb := H.blk hq
  exact TF.xs ho hc hg (run_store1 he hx hv h1 (hb.at_ (List.getElem?_eq_getElem hlt)) (hb.frozen o)) (hk _ (Only.setCell w ⟨b, o, none⟩ v) (H.setBlk hq (Only.setCell w ⟨b, o, none⟩ v) (hb.set o v)))
theorem OwnS.raw {b o m1 c k : Nat} {xs : List Value} (h : OwnS w e sz (some ⟨b, 0, none⟩) m1 c xs) (hfit : o + k ≤ m1 * sz) :
    ∃ cs fz, w.heap[b]? = some (.cells ⟨cs⟩ e fz) ∧ (cs.length ≤ fz.1 ∨ fz = (0, 0)) ∧ o + k ≤ cs.length ∧ (cs.drop o).take k = (xs.drop o).take k ∧
      ∀ (w' : World) (vs : List Value), vs.length = k → w'.heap[b]? = some (.cells ⟨cs.take o ++ vs ++ cs.drop (o + k)⟩ e fz) → OwnS w' e sz (some ⟨b, 0, none⟩) m1 c (xs.take o ++ vs ++ xs.drop (o + k)) := by
  rcases h.row with ⟨h0, _⟩ | ⟨g, cur, fz, hA, hg, hcs, hfz, htk⟩
  · cases h0
  · cases hA
    have hcap := h.cap
    have hmul : m1 * sz ≤ c * sz := Nat.mul_le_mul_right sz hcap
    have hxl : xs.length = m1 * sz := h.len
    have hcl : cur.toList.length = c * sz := by rw [Array.length_toList]; exact hcs
    have hcl2 : cur.toList.length = cur.size := Array.length_toList
    refine ⟨cur.toList, fz, by simpa using hg, by rwa [hcl2], by omega, ?_, fun w' vs hv hw => ⟨?_, hcap, h.max, .inr ⟨b, _, fz, rfl, hw, ?_, ?_, ?_⟩⟩⟩
    · rw [← htk, List.drop_take, List.take_take, Nat.min_eq_left (by omega)]
    · simp only [List.length_append, List.length_take, List.length_drop]
      omega
    · have : (cur.toList.take o ++ vs ++ cur.toList.drop (o + k)).length = c * sz := by
        simp only [List.length_append, List.length_take, List.length_drop]
        omega
      simpa using this
    · rcases hfz with h2 | h2
      · left
        have : (cur.toList.take o ++ vs ++ cur.toList.drop (o + k)).length = cur.size := by
          simp only [List.length_append, List.length_take, List.length_drop]
          omega
        simp only [List.size_toArray] at this ⊢
        omega
      · exact .inr h2
    · show (cur.toList.take o ++ vs ++ cur.toList.drop (o + k)).take (m1 * sz) = _
      rw [← htk]
      apply List.ext_getElem?
      intro j
      simp only [List.getElem?_take, List.getElem?_append, List.length_take, List.length_append, List.getElem?_drop, hcl]
      repeat' split
      all_goals first | rfl | omega | (congr 1; omega) | (symm; apply List.getElem?_eq_none; omega) | skip
end
end Go.Q
