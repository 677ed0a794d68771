/- Arguments that are slices, opened: what their reading as data says of memory. Conditions: none. -/
import Derived.Test.YtpncaeadbfdflaaCore9
import Derived.ChangeArms
import Derived.OpenShut
import Derived.SliceStrings
set_option linter.unusedSimpArgs false
set_option linter.unusedVariables false
namespace Go.Q
open Go.RowKit
section
variable {H : Type} {enc : TypeId × Value → H} {P : Program} {w : World} {base : Nat} {spare : Nat → Bool} {held : Bool}
theorem cells_get {a : Addr} {n : Nat} {cs : List Value} (h : w.cells? base a n = some cs) : cs.length = n ∧ ∀ j u, cs[j]? = some u → w.cell? (a.add j) = some u := by
  unfold World.cells? at h
  split at h
  · have hl := mapM_some_length h
    simp at hl
    refine ⟨hl, fun j u hj => ?_⟩
    have hlt : j < n := by
      have := (List.getElem?_eq_some_iff.1 hj).1
      omega
    have := mapM_some_get h j j (by simp [hlt])
    rw [this]; exact hj
  · cases h
theorem flat_get {α : Type} (cells : α → List Value) (sz : Nat) : ∀ (l : List α), (∀ a ∈ l, (cells a).length = sz) → ∀ (j : Nat) (u : Value), (l.flatMap cells)[j]? = some u → ∃ i a k, l[i]? = some a ∧ (cells a)[k]? = some u ∧ j = i * sz + k ∧ k < sz
  | [], _, j, u, h => by simp at h
  | a :: l, hs, j, u, h => by
    rw [List.flatMap_cons] at h
    have hsz := hs a List.mem_cons_self
    by_cases hj : j < sz
    · rw [List.getElem?_append_left (by omega)] at h
      exact ⟨0, a, j, rfl, h, by simp, hj⟩
    · rw [List.getElem?_append_right (by omega)] at h
      obtain ⟨i, b, k, h1, h2, h3, h4⟩ := flat_get cells sz l (fun x hx => hs x (List.mem_cons_of_mem _ hx)) _ u h
      exact ⟨i + 1, b, k, by simpa using h1, h2, by rw [Nat.add_mul]; omega, h4⟩
theorem flat_at {α : Type} (cells : α → List Value) (sz : Nat) : ∀ (l : List α), (∀ a, (cells a).length = sz) → ∀ {i k : Nat} {a : α}, l[i]? = some a → k < sz → (l.flatMap cells)[i * sz + k]? = (cells a)[k]?
  | [], _, i, k, a, h, _ => by simp at h
  | b :: l, hs, i, k, a, h, hk => by
    rw [List.flatMap_cons]
    have hb := hs b
    cases i with
    | zero =>
      simp at h
      subst h
      rw [Nat.zero_mul, Nat.zero_add, List.getElem?_append_left (by omega)]
    | succ i =>
      rw [List.getElem?_append_right (by rw [hb, Nat.add_mul]; omega), hb, show (i + 1) * sz + k - sz = i * sz + k by rw [Nat.add_mul]; omega]
      exact flat_at cells sz l hs (by simpa using h) hk
/-- A slice that came in: its elements, one by one. -/
theorem open_slice {α : Type} {t e : TypeId} {fuel sz : Nat} {cs : List Value} {x : DataW H × List MemPlace} (cells : α → List Value) (ok : α → Prop) (ht : P.underlying t = some (.slice e)) (hsz : P.cellsOf e = sz)
    (hE : ∀ (fuel : Nat) (cs : List Value) (y : DataW H × List MemPlace), DataW.trod enc P w base spare held fuel e cs = some y → ∃ a : α, cs = cells a ∧ ok a)
    (hl : ∀ a, (cells a).length = sz) (h : DataW.trod enc P w base spare held fuel t cs = some x) :
    ∃ (A : Option Addr) (n c : Nat) (l : List α), cs = [.slice A n c] ∧ RdS w sz A n c (l.flatMap cells) ∧ l.length = n ∧ ∀ a ∈ l, ok a := by
  subst hsz
  rcases DataW.trod_slice ht h with ⟨h1, _⟩ | ⟨a, len, cap, elems, rest, n, _, rfl, _, hb, hlc, hm, hlen, hel, _, _⟩
  · exact ⟨none, 0, 0, [], h1, by simpa using RdS.nil w _, rfl, (fun a h => by cases h)⟩
  · have each : ∀ i, i < len → ∃ b : α, w.cells? base (a.add (i * P.cellsOf e)) (P.cellsOf e) = some (cells b) ∧ ok b := by
      intro i hi
      have h1 := hel i hi
      have h2 : elems[i]? = some (elems[i]'(by omega)) := by simp [show i < elems.length by omega]
      rw [h2, Option.bind_eq_some_iff] at h1
      obtain ⟨cs', h3, h4⟩ := h1
      obtain ⟨b, rfl, hok⟩ := hE n cs' _ h4
      exact ⟨b, h3, hok⟩
    have build : ∀ m, m ≤ len → ∃ l : List α, l.length = m ∧ (∀ b ∈ l, ok b) ∧ ∀ i b, l[i]? = some b → w.cells? base (a.add (i * P.cellsOf e)) (P.cellsOf e) = some (cells b) := by
      intro m
      induction m with
      | zero => exact fun _ => ⟨[], rfl, (fun b h => by cases h), (fun i b h => by simp at h)⟩
      | succ m ih =>
        intro hm1
        obtain ⟨l, h1, h2, h3⟩ := ih (by omega)
        obtain ⟨b, h4, h5⟩ := each m (by omega)
        refine ⟨l ++ [b], by simp [h1], fun x hx => ?_, fun i x hx => ?_⟩
        · rcases List.mem_append.1 hx with hx | hx
          · exact h2 x hx
          · simp at hx; subst hx; exact h5
        · by_cases hi : i < l.length
          · rw [List.getElem?_append_left hi] at hx
            exact h3 i x hx
          · have : i = m := by
              have := (List.getElem?_eq_some_iff.1 hx).1
              simp [h1] at this
              omega
            subst this
            rw [List.getElem?_append_right (by omega), h1] at hx
            simp at hx
            subst hx
            exact h4
    obtain ⟨l, h1, h2, h3⟩ := build len (Nat.le_refl _)
    refine ⟨some a, len, cap, l, rfl, ⟨?_, hlc, hm, fun hn => ⟨a, rfl, fun j u hj => ?_⟩⟩, h1, h2⟩
    · have : ∀ l : List α, (l.flatMap cells).length = l.length * P.cellsOf e := by
        intro l
        induction l with
        | nil => simp
        | cons x l ih => rw [List.flatMap_cons, List.length_append, ih, hl x, List.length_cons, Nat.add_mul, Nat.one_mul, Nat.add_comm]
      rw [this, h1]
    · obtain ⟨i, b, k, h4, h5, rfl, h7⟩ := flat_get cells (P.cellsOf e) l (fun a _ => hl a) j u hj
      obtain ⟨_, h8⟩ := cells_get (h3 i b h4)
      have := h8 k u h5
      rw [add_add] at this
      exact this
theorem open_str {t : TypeId} {fuel : Nat} {cs : List Value} {x : DataW H × List MemPlace} (ht : P.underlying t = some .string) (h : DataW.trod enc P w base spare held fuel t cs = some x) : ∃ s : List UInt8, cs = [T s] ∧ s.length ≤ maxLen := by
  obtain ⟨s, rfl, _, h2⟩ := DataW.trod_string ht h
  exact ⟨s.data.toList, rfl, by rw [Array.length_toList]; exact h2⟩
theorem open_num {t : TypeId} {k : IntKind} {fuel : Nat} {cs : List Value} {x : DataW H × List MemPlace} (ht : P.underlying t = some (.int k)) (h : DataW.trod enc P w base spare held fuel t cs = some x) : ∃ a : Int, cs = [.int k a] ∧ (Lit.int k a).wf = true := by
  obtain ⟨a, rfl, _, h2⟩ := DataW.trod_int ht h
  exact ⟨a, rfl, h2⟩
theorem open_flag {t : TypeId} {fuel : Nat} {cs : List Value} {x : DataW H × List MemPlace} (ht : P.underlying t = some .bool) (h : DataW.trod enc P w base spare held fuel t cs = some x) : ∃ a : Bool, cs = [.bool a] := by
  obtain ⟨a, rfl, _⟩ := DataW.trod_bool ht h
  exact ⟨a, rfl⟩
/-- One field of a struct that came in. -/
theorem open_fld {t : TypeId} {fs : Array Field} {fuel i : Nat} {cs : List Value} {x : DataW H × List MemPlace} {fd : Field} (ht : P.underlying t = some (.struct fs)) (h : DataW.trod enc P w base spare held fuel t cs = some x) (hf : fs[i]? = some fd) :
    ∃ n y, DataW.trod enc P w base spare held n fd.type ((cs.drop fd.offset).take (P.cellsOf fd.type)) = some y := by
  obtain ⟨xs, n, _, _, _, h4, h5⟩ := DataW.trod_struct ht h
  have hlt : i < xs.length := by
    rw [h4]
    exact (Array.getElem?_eq_some_iff.1 hf).1
  exact ⟨n, xs[i], by rw [h5 i fd hf]; simp [hlt]⟩
theorem open_len {t : TypeId} {fs : Array Field} {fuel : Nat} {cs : List Value} {x : DataW H × List MemPlace} (ht : P.underlying t = some (.struct fs)) (h : DataW.trod enc P w base spare held fuel t cs = some x) : cs.length = P.cellsOf t := by
  obtain ⟨xs, n, _, _, h3, _, _⟩ := DataW.trod_struct ht h
  exact h3
end
theorem len1 {l : List Value} (h : l.length = 1) : ∃ x0, l = [x0] := by
  rcases l with _ | ⟨x0, _ | ⟨x1, r⟩⟩ <;> first | exact ⟨_, rfl⟩ | (simp at h; done) | (simp at h; omega)
theorem len2 {l : List Value} (h : l.length = 2) : ∃ x0 x1, l = [x0, x1] := by
  rcases l with _ | ⟨x0, _ | ⟨x1, _ | ⟨x2, r⟩⟩⟩ <;> first | exact ⟨_, _, rfl⟩ | (simp at h; done) | (simp at h; omega)
theorem len3 {l : List Value} (h : l.length = 3) : ∃ x0 x1 x2, l = [x0, x1, x2] := by
  rcases l with _ | ⟨x0, _ | ⟨x1, _ | ⟨x2, _ | ⟨x3, r⟩⟩⟩⟩ <;> first | exact ⟨_, _, _, rfl⟩ | (simp at h; done) | (simp at h; omega)
theorem len4 {l : List Value} (h : l.length = 4) : ∃ x0 x1 x2 x3, l = [x0, x1, x2, x3] := by
  rcases l with _ | ⟨x0, _ | ⟨x1, _ | ⟨x2, _ | ⟨x3, _ | ⟨x4, r⟩⟩⟩⟩⟩ <;> first | exact ⟨_, _, _, _, rfl⟩ | (simp at h; done) | (simp at h; omega)
theorem len5 {l : List Value} (h : l.length = 5) : ∃ x0 x1 x2 x3 x4, l = [x0, x1, x2, x3, x4] := by
  rcases l with _ | ⟨x0, _ | ⟨x1, _ | ⟨x2, _ | ⟨x3, _ | ⟨x4, _ | ⟨x5, r⟩⟩⟩⟩⟩⟩ <;> first | exact ⟨_, _, _, _, _, rfl⟩ | (simp at h; done) | (simp at h; omega)
theorem len6 {l : List Value} (h : l.length = 6) : ∃ x0 x1 x2 x3 x4 x5, l = [x0, x1, x2, x3, x4, x5] := by
  rcases l with _ | ⟨x0, _ | ⟨x1, _ | ⟨x2, _ | ⟨x3, _ | ⟨x4, _ | ⟨x5, _ | ⟨x6, r⟩⟩⟩⟩⟩⟩⟩ <;> first | exact ⟨_, _, _, _, _, _, rfl⟩ | (simp at h; done) | (simp at h; omega)
theorem len7 {l : List Value} (h : l.length = 7) : ∃ x0 x1 x2 x3 x4 x5 x6, l = [x0, x1, x2, x3, x4, x5, x6] := by
  rcases l with _ | ⟨x0, _ | ⟨x1, _ | ⟨x2, _ | ⟨x3, _ | ⟨x4, _ | ⟨x5, _ | ⟨x6, _ | ⟨x7, r⟩⟩⟩⟩⟩⟩⟩⟩ <;> first | exact ⟨_, _, _, _, _, _, _, rfl⟩ | (simp at h; done) | (simp at h; omega)
theorem len8 {l : List Value} (h : l.length = 8) : ∃ x0 x1 x2 x3 x4 x5 x6 x7, l = [x0, x1, x2, x3, x4, x5, x6, x7] := by
  rcases l with _ | ⟨x0, _ | ⟨x1, _ | ⟨x2, _ | ⟨x3, _ | ⟨x4, _ | ⟨x5, _ | ⟨x6, _ | ⟨x7, _ | ⟨x8, r⟩⟩⟩⟩⟩⟩⟩⟩⟩ <;> first | exact ⟨_, _, _, _, _, _, _, _, rfl⟩ | (simp at h; done) | (simp at h; omega)
end Go.Q
