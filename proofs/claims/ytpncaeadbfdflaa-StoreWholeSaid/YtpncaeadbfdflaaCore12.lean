/- append that must grow: a new row, owned. Conditions: none. -/
import Derived.Test.YtpncaeadbfdflaaCore11
set_option linter.unusedSimpArgs false
set_option linter.unusedVariables false
namespace Go.Q
open Go.RowKit
section
variable {P : Program} {ops : Array Oper} {n : Nat} {Q : Exit → Act → World → Prop} {S : World → Prop} {cl : Nat → Cl} {i : Nat} {l : List Nat} {f : Nat → Value} {w : World}
variable {x y : Operand} {t t1 t2 : TypeId} {pos : String} {aft : Array Edge} {g : Option (Nat × Bool)} {d : Tmp} {dd : Option Tmp} {de dx : TypeDesc} {sz e by1 c m : Nat} {O : List Nat} {w0 : World} {L : List Chk} {A : Option Addr} {xs news : List Value} {zv v : Value}
theorem TF.appendG {S2 : World → World → Prop} {T1 T2 : TypeId} {m1 : Nat} (H : Sat O w0 w L) (h : RdS w sz A m1 c xs) (hgr : c < m1 + m) (hA : A = none → m1 = 0 ∧ c = 0) (ho : ops[i]? = some ⟨some d, .call ⟨.builtin .append, #[x, y], #[T1, T2]⟩, t, pos, aft, g⟩) (hc : Cx cl i S S2 w)
    (hg : wantF ops f ⟨some d, .call ⟨.builtin .append, #[x, y], #[T1, T2]⟩, t, pos, aft, g⟩ = true) (hS : P.underlying T1 = some (.slice e)) (he : Ty P e de zv sz by1) (hzc : zv.cells.size = sz) (hX : P.underlying T2 = some dx) (hdx : dx = .string ∨ ∃ e2, dx = .slice e2)
    (hx : op f x = .slice A m1 c) (hy : op f y = v) (hs : Src P w sz v m news) (h63 : m1 + m ≤ maxLen) (hb : (m1 + m) * by1 ≤ 140737488355328)
    (hk : ∀ A' c' w', Below w.heap.size w w' → Sat O w0 w' (cOwn e sz A' (m1 + m) c' (xs ++ news) :: L) → TF P ops n Q (S2 w') cl l (upd f d (.slice A' (m1 + m) c')) w') : TF P ops n Q S cl (i :: l) f w := by
  obtain ⟨c', w', hr, h2, h3⟩ := run_append_grow' (ty := t) hS he hzc hX hdx h hs hgr h63 hb hA
  refine TF.cx ho hc hg (v := .slice (some ⟨w.heap.size, 0, none⟩) (m1 + m) c') (w' := w') ?_ h3 (hk _ c' w' h3 (H.newOwn h3 h2 fun j hj => ?_))
  · simp only [execOp, resolve, invoke, builtin, Sem.run_bind, Sem.run_pure, Result.andThen_ok, List.map_toArray, List.map_cons, List.map_nil, hx, hy, hr]
  · simp [ownF] at hj
    omega
theorem RdS.none00 {w : World} {sz n c : Nat} {A : Option Addr} {xs : List Value} (h : RdS w sz A n c xs) (hn : 0 < n) (hA : A = none) : n = 0 ∧ c = 0 := by
  have := h.none0 hA
  omega
end
end Go.Q
