/- Writing into slices that are owned: many cells, copies. Conditions: none. -/
import Derived.Test.YtpncaeadbfdflaaCore10
set_option linter.unusedSimpArgs false
set_option linter.unusedVariables false
namespace Go.Q
open Go.RowKit
section
variable {P : Program} {ops : Array Oper} {n : Nat} {Q : Exit → Act → World → Prop} {S : World → Prop} {cl : Nat → Cl} {i : Nat} {l : List Nat} {f : Nat → Value} {w : World}
variable {x y : Operand} {t t1 t2 : TypeId} {pos : String} {aft : Array Edge} {g : Option (Nat × Bool)} {d : Tmp} {dd : Option Tmp} {de : TypeDesc} {sz e : Nat}
theorem OwnS.write {b o m1 c : Nat} {xs news : List Value} (h : OwnS w e sz (some ⟨b, 0, none⟩) m1 c xs) (h1 : ∀ v ∈ news, v.oneCell' = true) (hfit : o + news.length ≤ m1 * sz) :
    ∃ w', (storeCells ⟨b, o, none⟩ news 0).run P w = .ok () w' ∧ OwnS w' e sz (some ⟨b, 0, none⟩) m1 c (xs.take o ++ news ++ xs.drop (o + news.length)) ∧ Only [b] w w' := by
  rcases h.row with ⟨h0, _⟩ | ⟨g, cur, fz, hA, hg, hcs, hfz, htk⟩
  · cases h0
  · cases hA
    have hcap := h.cap
    have hmul : m1 * sz ≤ c * sz := Nat.mul_le_mul_right sz hcap
    have hst := run_rowStore (P := P) b o e fz news 0 cur w hg hfz (by omega) h1
    simp only [Nat.add_zero] at hst
    have hxl : xs.length = m1 * sz := h.len
    refine ⟨_, hst, ⟨?_, hcap, h.max, .inr ⟨b, _, fz, rfl, setRow_heap w b cur _ e fz hg, ?_, ?_, ?_⟩⟩, only_setRow w b _⟩
    · simp only [List.length_append, List.length_take, List.length_drop]
      omega
    · have : cur.toList.length = c * sz := by rw [Array.length_toList]; exact hcs
      simp only [List.size_toArray, List.length_append, List.length_take, List.length_drop]
      omega
    · rcases hfz with h2 | h2
      · left
        have : cur.toList.length = cur.size := Array.length_toList
        simp only [List.size_toArray, List.length_append, List.length_take, List.length_drop]
        omega
      · exact .inr h2
    · simp only [List.toList_toArray]
      have hcl : cur.toList.length = c * sz := by rw [Array.length_toList]; exact hcs
      rw [← htk]
      apply List.ext_getElem?
      intro j
      simp only [List.getElem?_take, List.getElem?_append, List.length_take, List.length_append, List.getElem?_drop, hcl]
      repeat' split
      all_goals first | rfl | omega | (congr 1; omega) | (symm; apply List.getElem?_eq_none; omega) | skip
theorem TF.copyO {O : List Nat} {w0 : World} {L : List Chk} {q b o dl dc m m1 c : Nat} {T1 T2 : TypeId} {xs news : List Value} {v : Value} (H : Sat O w0 w L) (hq : nth L q = some (cOwn e sz (some ⟨b, 0, none⟩) m1 c xs))
    (ho : ops[i]? = some ⟨some d, .call ⟨.builtin .copy, #[x, y], #[T1, T2]⟩, t, pos, aft, g⟩) (hc : cl i = .X)
    (hg : wantF ops f ⟨some d, .call ⟨.builtin .copy, #[x, y], #[T1, T2]⟩, t, pos, aft, g⟩ = true) (hS : P.underlying T1 = some (.slice e)) (he : Sz P e de sz)
    (hx : op f x = .slice (some ⟨b, o, none⟩) dl dc) (hy : op f y = v) {m' : Nat} (hlo : ∀ w', (Builtin.lenOf v).run P w' = .ok m w') (hm : min m dl = m') (hs : (Builtin.firstCells sz m' v).run P w = .ok ⟨news⟩ w) (h1 : ∀ u ∈ news, u.oneCell' = true) (hfit : o + news.length ≤ m1 * sz)
    (hk : ∀ w', Only [b] w w' → Sat O w0 w' (setAt L q (cOwn e sz (some ⟨b, 0, none⟩) m1 c (xs.take o ++ news ++ xs.drop (o + news.length)))) → TF P ops n Q S cl l (upd f d (.int .i64 (m' : Int))) w') : TF P ops n Q S cl (i :: l) f w := by
  obtain ⟨w', hst, how, hon⟩ := (H.own_ hq).write (P := P) h1 hfit
  refine TF.x ho hc hg (v := .int .i64 (m' : Int)) (w' := w') ?_ (hk _ hon (H.setOwn hq hon how fun j hj => .inl hj))
  have hm2 : Nat.min m dl = m' := hm
  have hlw := hlo w
  have hr : (Builtin.copy_ #[T1, T2] t #[.slice (some ⟨b, o, none⟩) dl dc, v]).run P w = .ok (goInt (m' : Int)) w' := by
    simp [Builtin.copy_, run_underlying hS, hlw, hm2, sizeOf_run he, hs, hst]
  simp only [execOp, resolve, invoke, builtin, Sem.run_bind, Sem.run_pure, Result.andThen_ok, List.map_toArray, List.map_cons, List.map_nil, hx, hy, hr]
  rfl
/-- copy(dst[o:], text) -/
theorem TF.copyOT {O : List Nat} {w0 : World} {L : List Chk} {q b o dl dc m1 c : Nat} {T1 T2 : TypeId} {xs s : List UInt8} (H : Sat O w0 w L) (hq : nth L q = some (cOwnB e (some ⟨b, 0, none⟩) m1 c xs))
    (ho : ops[i]? = some ⟨some d, .call ⟨.builtin .copy, #[x, y], #[T1, T2]⟩, t, pos, aft, g⟩) (hc : cl i = .X)
    (hg : wantF ops f ⟨some d, .call ⟨.builtin .copy, #[x, y], #[T1, T2]⟩, t, pos, aft, g⟩ = true) (hS : P.underlying T1 = some (.slice e)) (he : Sz P e de 1)
    (hx : op f x = .slice (some ⟨b, o, none⟩) dl dc) (hy : op f y = T s) {m' : Nat} (hm : min s.length dl = m') (hfit : o + m' ≤ m1)
    (hk : ∀ w', Only [b] w w' → Sat O w0 w' (setAt L q (cOwnB e (some ⟨b, 0, none⟩) m1 c (xs.take o ++ s.take m' ++ xs.drop (o + m')))) → TF P ops n Q S cl l (upd f d (.int .i64 (m' : Int))) w') : TF P ops n Q S cl (i :: l) f w := by
  have hl : (u8s (s.take m')).length = m' := by rw [u8s_len, List.length_take]; omega
  refine TF.copyO H hq ho hc hg hS he hx hy (fun _ => rfl) hm (first_text w s m') (fun _ => u8s_one) (by rw [hl]; omega) fun w' h1 h2 => ?_
  rw [hl, u8s_take, u8s_drop, ← u8s_app, ← u8s_app] at h2
  exact hk w' h1 h2
/-- copy(dst[o:], bytes) -/
theorem TF.copyOB {O : List Nat} {w0 : World} {L : List Chk} {q b o dl dc m1 c m c2 : Nat} {B : Option Addr} {T1 T2 : TypeId} {xs s : List UInt8} (H : Sat O w0 w L) (hq : nth L q = some (cOwnB e (some ⟨b, 0, none⟩) m1 c xs)) (hr : RdB w B m c2 s)
    (ho : ops[i]? = some ⟨some d, .call ⟨.builtin .copy, #[x, y], #[T1, T2]⟩, t, pos, aft, g⟩) (hc : cl i = .X)
    (hg : wantF ops f ⟨some d, .call ⟨.builtin .copy, #[x, y], #[T1, T2]⟩, t, pos, aft, g⟩ = true) (hS : P.underlying T1 = some (.slice e)) (he : Sz P e de 1)
    (hx : op f x = .slice (some ⟨b, o, none⟩) dl dc) (hy : op f y = .slice B m c2) {m' : Nat} (hm : min m dl = m') (hfit : o + m' ≤ m1)
    (hk : ∀ w', Only [b] w w' → Sat O w0 w' (setAt L q (cOwnB e (some ⟨b, 0, none⟩) m1 c (xs.take o ++ s.take m' ++ xs.drop (o + m')))) → TF P ops n Q S cl l (upd f d (.int .i64 (m' : Int))) w') : TF P ops n Q S cl (i :: l) f w := by
  have hsl := hr.length
  have hl : (u8s (s.take m')).length = m' := by rw [u8s_len, List.length_take]; omega
  refine TF.copyO H hq ho hc hg hS he hx hy (fun _ => rfl) hm (first_rdB hr (by omega)) (fun _ => u8s_one) (by rw [hl]; omega) fun w' h1 h2 => ?_
  rw [hl, u8s_take, u8s_drop, ← u8s_app, ← u8s_app] at h2
  exact hk w' h1 h2
end
end Go.Q
