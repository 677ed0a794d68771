/- Arguments that are arrays, pages, or structs with such, opened. Conditions: none. -/
import Derived.Test.YtpncaeadbfdflaaPage2
import Derived.Test.YtpncaeadbfdflaaArgs
set_option linter.unusedSimpArgs false
set_option linter.unusedVariables false
namespace Go.Q
open Go.RowKit
section
variable {H : Type} {enc : TypeId × Value → H} {P : Program} {w : World} {base : Nat} {spare : Nat → Bool} {held : Bool}
/-- These cells read as data of that type. -/
def OT {H : Type} (enc : TypeId × Value → H) (P : Program) (w : World) (base : Nat) (spare : Nat → Bool) (held : Bool) (t : TypeId) (cs : List Value) : Prop := ∃ fuel x, DataW.trod enc P w base spare held fuel t cs = some x
theorem OT.fld {t : TypeId} {fs : Array Field} {cs : List Value} (h : OT enc P w base spare held t cs) (ht : P.underlying t = some (.struct fs)) {i : Nat} {fd : Field} (hf : fs[i]? = some fd) : OT enc P w base spare held fd.type ((cs.drop fd.offset).take (P.cellsOf fd.type)) := by
  obtain ⟨fuel, x, h⟩ := h
  obtain ⟨n, y, hy⟩ := open_fld ht h hf
  exact ⟨n, y, hy⟩
theorem OT.len {t : TypeId} {fs : Array Field} {cs : List Value} (h : OT enc P w base spare held t cs) (ht : P.underlying t = some (.struct fs)) : cs.length = P.cellsOf t := by
  obtain ⟨fuel, x, h⟩ := h
  exact open_len ht h
theorem OT.str {t : TypeId} {cs : List Value} (h : OT enc P w base spare held t cs) (ht : P.underlying t = some .string) : ∃ s : List UInt8, cs = [T s] ∧ s.length ≤ maxLen := by
  obtain ⟨fuel, x, h⟩ := h
  exact open_str ht h
theorem OT.flag {t : TypeId} {cs : List Value} (h : OT enc P w base spare held t cs) (ht : P.underlying t = some .bool) : ∃ a : Bool, cs = [.bool a] := by
  obtain ⟨fuel, x, h⟩ := h
  exact open_flag ht h
theorem OT.i64 {t : TypeId} {cs : List Value} (h : OT enc P w base spare held t cs) (ht : P.underlying t = some (.int .i64)) : ∃ a : Int, cs = [.int .i64 a] ∧ -9223372036854775808 ≤ a ∧ a ≤ 9223372036854775807 := by
  obtain ⟨fuel, x, h⟩ := h
  obtain ⟨a, rfl, hw⟩ := open_num ht h
  exact ⟨a, rfl, bounds_i64 hw⟩
theorem OT.u64 {t : TypeId} {cs : List Value} (h : OT enc P w base spare held t cs) (ht : P.underlying t = some (.int .u64)) : ∃ a : Nat, cs = [.int .u64 (a : Int)] ∧ a < 18446744073709551616 := by
  obtain ⟨fuel, x, h⟩ := h
  obtain ⟨a, rfl, hw⟩ := open_num ht h
  have hb := bounds_u64 hw
  obtain ⟨b, rfl⟩ := Int.eq_ofNat_of_zero_le hb.1
  exact ⟨b, rfl, by omega⟩
theorem OT.array {α : Type} {t e : TypeId} {n sz : Nat} {cs : List Value} (g : α → List Value) (ok : α → Prop) (h : OT enc P w base spare held t cs) (ht : P.underlying t = some (.array n e)) (hsz : P.cellsOf e = sz) (hn : P.cellsOf t = n * sz)
    (hE : ∀ cs, OT enc P w base spare held e cs → ∃ a, cs = g a ∧ ok a) (hl : ∀ a, (g a).length = sz) : ∃ l : List α, cs = l.flatMap g ∧ l.length = n ∧ ∀ a ∈ l, ok a := by
  subst hsz
  obtain ⟨fuel, x, h⟩ := h
  obtain ⟨xs, m, _, _, hlen, hxl, hel⟩ := DataW.trod_array ht h
  have each : ∀ i, i < n → ∃ a, (cs.drop (i * P.cellsOf e)).take (P.cellsOf e) = g a ∧ ok a := by
    intro i hi
    have h1 := hel i hi
    have h2 : xs[i]? = some (xs[i]'(by omega)) := by simp [show i < xs.length by omega]
    rw [h2] at h1
    exact hE _ ⟨m, _, h1⟩
  have build : ∀ k, k ≤ n → ∃ l : List α, l.length = k ∧ (∀ a ∈ l, ok a) ∧ cs.take (k * P.cellsOf e) = l.flatMap g := by
    intro k
    induction k with
    | zero => exact fun _ => ⟨[], rfl, (fun a h => by cases h), by simp⟩
    | succ k ih =>
      intro hk
      obtain ⟨l, h1, h2, h3⟩ := ih (by omega)
      obtain ⟨a, h4, h5⟩ := each k (by omega)
      refine ⟨l ++ [a], by simp [h1], fun b hb => ?_, ?_⟩
      · rcases List.mem_append.1 hb with hb | hb
        · exact h2 b hb
        · simp at hb; subst hb; exact h5
      · rw [Nat.succ_mul, List.take_add, h3, h4, List.flatMap_append]
        simp
  obtain ⟨l, h1, h2, h3⟩ := build n (Nat.le_refl _)
  refine ⟨l, ?_, h1, h2⟩
  rw [← h3, List.take_of_length_le (by rw [hlen, hn]; omega)]
theorem OT.two {fs : Array Field} {t : TypeId} {ts : List (Nat × Nat)} {cs : List Value} (h : OT enc P w base spare held t cs) (ht : P.underlying t = some (.struct fs)) {o1 s1 t1 o2 s2 t2 : Nat} (hfs : fs.toList.map (fun f => (f.offset, f.type)) = [(o1, t1), (o2, t2)]) (hs1 : P.cellsOf t1 = s1) (hs2 : P.cellsOf t2 = s2) (ho1 : o1 = 0) (ho2 : o2 = s1) (hsz : P.cellsOf t = s1 + s2) :
    ∃ a b, cs = a ++ b ∧ OT enc P w base spare held t1 a ∧ OT enc P w base spare held t2 b := by
  subst ho1 ho2 hs1 hs2
  obtain ⟨f1, f2, hf⟩ : ∃ f1 f2, fs = #[f1, f2] := by
    have : fs.toList.length = 2 := by simpa using congrArg List.length hfs
    rcases fs with ⟨l⟩
    match l, this with
    | [f1, f2], _ => exact ⟨f1, f2, rfl⟩
  subst hf
  simp only [List.map_cons, List.map_nil, List.cons.injEq, Prod.mk.injEq, and_true] at hfs
  obtain ⟨⟨a1, b1⟩, a2, b2⟩ := hfs
  have l0 := h.len ht
  have x1 := h.fld ht (i := 0) (fd := f1) rfl
  have x2 := h.fld ht (i := 1) (fd := f2) rfl
  rw [a1, b1] at x1
  rw [a2, b2] at x2
  refine ⟨_, _, ?_, x1, x2⟩
  rw [List.drop_zero, List.take_of_length_le (l := cs.drop _) (by rw [List.length_drop, l0, hsz]; omega), List.take_append_drop]
theorem OT.cell {t tb ts : TypeId} {fs : Array Field} {cs : List Value} (h : OT enc P w base spare held t cs) (ht : P.underlying t = some (.struct fs)) (hfs : fs.toList.map (fun f => (f.offset, f.type)) = [(0, tb), (1, ts)]) (hb : P.underlying tb = some .bool) (hs : P.underlying ts = some .string)
    (h1 : P.cellsOf tb = 1) (h2 : P.cellsOf ts = 1) (h3 : P.cellsOf t = 2) : ∃ c : CL, cs = cellV c ∧ c.2.length ≤ 9223372036854775807 := by
  obtain ⟨a, b, rfl, x1, x2⟩ := h.two ht hfs h1 h2 rfl rfl h3 (ts := [])
  obtain ⟨u, rfl⟩ := x1.flag hb
  obtain ⟨v, rfl, hv⟩ := x2.str hs
  exact ⟨(u, v), rfl, hv⟩
theorem OT.page {t tn ta tc tb ts : TypeId} {fs fc : Array Field} {cs : List Value} (h : OT enc P w base spare held t cs) (ht : P.underlying t = some (.struct fs)) (hfs : fs.toList.map (fun f => (f.offset, f.type)) = [(0, tn), (1, ta)]) (hn : P.underlying tn = some (.int .u64)) (ha : P.underlying ta = some (.array 8 tc))
    (htc : P.underlying tc = some (.struct fc)) (hfc : fc.toList.map (fun f => (f.offset, f.type)) = [(0, tb), (1, ts)]) (hb : P.underlying tb = some .bool) (hs : P.underlying ts = some .string)
    (hz : (P.cellsOf tn, P.cellsOf ta, P.cellsOf t, P.cellsOf tc, P.cellsOf tb, P.cellsOf ts) = (1, 16, 17, 2, 1, 1)) : ∃ p : PG, cs = pgV p ∧ POk p := by
  simp only [Prod.mk.injEq] at hz
  obtain ⟨z1, z2, z3, z4, z5, z6⟩ := hz
  obtain ⟨a, b, rfl, x1, x2⟩ := h.two ht hfs z1 z2 rfl rfl z3 (ts := [])
  obtain ⟨n, rfl, hn2⟩ := x1.u64 hn
  obtain ⟨l, rfl, hl, hok⟩ := x2.array cellV (fun c => c.2.length ≤ 9223372036854775807) ha z4 (by rw [z2]) (fun cs h => h.cell htc hfc hb hs z5 z6 z4) cellV_len
  exact ⟨⟨n, l⟩, rfl, hl, hn2, hok⟩
end
end Go.Q
