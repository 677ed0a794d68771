/- Things made of things; a call that turns one of them. Conditions: none. -/
import Derived.Test.YtpncaeadbfdflaaCore7
set_option linter.unusedSimpArgs false
set_option linter.unusedVariables false
namespace Go.Q
open Go.RowKit
/-- What a call did to one thing: it is c' now, on its own blocks or on new ones, and nothing else has turned. -/
def Upd (c' : Chk) (F : List Nat) (w w' : World) : Prop := Only F w w' ∧ ∃ F', c'.p w' F' ∧ ∀ j ∈ F', j ∈ F ∨ w.heap.size ≤ j
section
variable {O : List Nat} {w0 w w' : World} {L : List Chk} {c c' : Chk} {k : Nat}
theorem SatL.focus {w : World} : ∀ {L : List Chk} {G : List Nat} {k : Nat} {c : Chk}, SatL w L G → nth L k = some c →
    ∃ F, c.p w F ∧ (∀ j ∈ F, j ∈ G) ∧ ∀ (w' : World) (c' : Chk), Upd c' F w w' → ∃ G', SatL w' (setAt L k c') G' ∧ (∀ j ∈ G', j ∈ G ∨ w.heap.size ≤ j)
  | [], _, _, _, _, h => by cases h
  | c :: L, G, 0, _, ⟨F, G', hc, hL, hd, hG⟩, h => by
    cases h
    subst hG
    refine ⟨F, hc, fun j hj => List.mem_append_left _ hj, fun w' c' hu => ?_⟩
    obtain ⟨ho, F', h1, h2⟩ := hu
    have hL' : SatL w' L G' := hL.loc fun k hk => ho.block k (hL.inb k hk) (fun hF => hd k hF hk)
    refine ⟨F' ++ G', ⟨F', G', h1, hL', fun k hk hk' => ?_, rfl⟩, fun j hj => ?_⟩
    · rcases h2 k hk with h | h
      · exact hd k h hk'
      · have := hL.inb k hk'
        omega
    · rcases List.mem_append.1 hj with h | h
      · exact (h2 j h).imp (List.mem_append_left _) id
      · exact .inl (List.mem_append_right _ h)
  | c :: L, G, k + 1, c0, ⟨F, G', hc, hL, hd, hG⟩, h => by
    subst hG
    obtain ⟨F0, h1, h2, h3⟩ := SatL.focus (k := k) hL h
    refine ⟨F0, h1, fun j hj => List.mem_append_right _ (h2 j hj), fun w' c' hu => ?_⟩
    obtain ⟨G2, h4, h5⟩ := h3 w' c' hu
    refine ⟨F ++ G2, ⟨F, G2, c.loc hc fun j hj => hu.1.block j (c.inb hc j hj) (fun h => hd j hj (h2 j h)), h4, fun j hj hj' => ?_, rfl⟩, fun j hj => ?_⟩
    · rcases h5 j hj' with h | h
      · exact hd j hj h
      · have := c.inb hc j hj
        omega
    · rcases List.mem_append.1 hj with h | h
      · exact .inl (List.mem_append_left _ h)
      · exact (h5 j h).imp (List.mem_append_right _) id
/-- One thing is handed to a call. -/
theorem Sat.focus (H : Sat O w0 w L) (h : nth L k = some c) : ∃ F, c.p w F ∧ ∀ {w' : World} {c' : Chk}, Upd c' F w w' → Sat O w0 w' (setAt L k c') := by
  obtain ⟨G, h1, h2⟩ := H.own
  obtain ⟨F, h3, h4, h5⟩ := h1.focus h
  refine ⟨F, h3, fun {w' c'} hu => ?_⟩
  obtain ⟨G', h6, h7⟩ := h5 w' c' hu
  refine ⟨⟨hu.1.os.trans H.only.os, hu.1.tape.trans H.only.tape, hu.1.output.trans H.only.output, Nat.le_trans H.only.size hu.1.size, fun j hj hn => ?_⟩, G', h6, fun j hj => ?_⟩
  · refine (hu.1.block j (Nat.lt_of_lt_of_le hj H.only.size) fun hF => ?_).trans (H.only.block j hj hn)
    rcases h2 j (h4 j hF) with h | h
    · exact hn h
    · omega
  · rcases h7 j hj with h | h
    · exact h2 j h
    · exact .inr (Nat.le_trans H.only.size h)
theorem Upd.of_below {c : Chk} {F : List Nat} (h : c.p w F) (hb : Below w.heap.size w w') : Upd c F w w' :=
  ⟨.of_below _ hb, F, c.loc h fun k hk => hb.block k (c.inb h k hk), fun j hj => .inl hj⟩
theorem Upd.refl {c : Chk} {F : List Nat} (h : c.p w F) : Upd c F w w := .of_below h (Below.refl _ _)
/-- What a body did to the one thing that it was handed. -/
theorem Sat.toUpd {F : List Nat} (H : Sat F w0 w L) (h : nth L k = some c) : Upd c F w0 w := by
  obtain ⟨G, h1, h2⟩ := H.own
  obtain ⟨F', h3, h4⟩ := h1.get h
  exact ⟨H.only, F', h3, fun j hj => h2 j (h4 j hj)⟩
/-- A new thing that a call hands back. -/
def NewC (c : Chk) (w w' : World) : Prop := Below w.heap.size w w' ∧ ∃ F, c.p w' F ∧ ∀ j ∈ F, w.heap.size ≤ j
theorem NewC.below (h : NewC c w w') : Below w.heap.size w w' := h.1
theorem Sat.newC (H : Sat O w0 w L) (h : NewC c w w') : Sat O w0 w' (c :: L) := let ⟨hb, F, h1, h2⟩ := h; H.new hb h1 h2
theorem Sat.toNewC (H : Sat [] w0 w L) (h : nth L k = some c) : NewC c w0 w := by
  obtain ⟨G, h1, h2⟩ := H.own
  obtain ⟨F', h3, h4⟩ := h1.get h
  refine ⟨H.base, F', h3, fun j hj => ?_⟩
  rcases h2 j (h4 j hj) with h | h
  · cases h
  · exact h

/-! ### things side by side; a thing with what is not told of it -/
def cSep (a b : Chk) : Chk where
  p w F := ∃ F1 F2, a.p w F1 ∧ b.p w F2 ∧ (∀ k ∈ F1, k ∉ F2) ∧ F = F1 ++ F2
  loc := fun ⟨F1, F2, h1, h2, h3, h4⟩ hk => by
    subst h4
    exact ⟨F1, F2, a.loc h1 fun k h => hk k (List.mem_append_left _ h), b.loc h2 fun k h => hk k (List.mem_append_right _ h), h3, rfl⟩
  inb := fun ⟨F1, F2, h1, h2, h3, h4⟩ k hk => by
    subst h4
    rcases List.mem_append.1 hk with h | h
    · exact a.inb h1 k h
    · exact b.inb h2 k h
def cEx {α : Type} (f : α → Chk) : Chk where
  p w F := ∃ a, (f a).p w F
  loc := fun ⟨a, h⟩ hk => ⟨a, (f a).loc h hk⟩
  inb := fun ⟨a, h⟩ => (f a).inb h
def cPure (φ : Prop) : Chk where
  p _ F := φ ∧ F = []
  loc := fun h _ => h
  inb := fun h k hk => by rw [h.2] at hk; cases hk
theorem SatL.front {w : World} : ∀ {L : List Chk} {G : List Nat} (k : Nat) {c : Chk}, SatL w L G → nth L k = some c → ∃ G', SatL w (c :: delAt L k) G' ∧ ∀ j, j ∈ G' ↔ j ∈ G
  | [], _, _, _, _, h => by cases h
  | c :: L, G, 0, _, h0, h => by
    cases h
    exact ⟨G, h0, fun _ => Iff.rfl⟩
  | c :: L, G, k + 1, c0, ⟨F, G', hc, hL, hd, hG⟩, h => by
    subst hG
    obtain ⟨G2, ⟨F0, G3, h1, h2, h3, h4⟩, h5⟩ := SatL.front k hL h
    subst h4
    refine ⟨F0 ++ (F ++ G3), ⟨F0, F ++ G3, h1, ⟨F, G3, hc, h2, fun j hj hj' => hd j hj ((h5 j).1 (List.mem_append_right _ hj')), rfl⟩, fun j hj hj' => ?_, rfl⟩, fun j => ?_⟩
    · rcases List.mem_append.1 hj' with h | h
      · exact hd j h ((h5 j).1 (List.mem_append_left _ hj))
      · exact h3 j hj h
    · have := h5 j
      simp only [List.mem_append] at this ⊢
      rw [← this]
      constructor
      · rintro (h | h | h)
        · exact .inr (.inl h)
        · exact .inl h
        · exact .inr (.inr h)
      · rintro (h | h | h)
        · exact .inr (.inl h)
        · exact .inl h
        · exact .inr (.inr h)
theorem Sat.front (H : Sat O w0 w L) (k : Nat) (h : nth L k = some c) : Sat O w0 w (c :: delAt L k) :=
  ⟨H.only, let ⟨G, h1, h2⟩ := H.own; let ⟨G', h3, h4⟩ := h1.front k h; ⟨G', h3, fun j hj => h2 j ((h4 j).1 hj)⟩⟩
theorem Sat.unsep {a b : Chk} (H : Sat O w0 w (cSep a b :: L)) : Sat O w0 w (a :: b :: L) := by
  obtain ⟨ho, G, ⟨F, G', ⟨F1, F2, h1, h2, h3, h4⟩, hL, hd, hG⟩, hm⟩ := H
  subst h4; subst hG
  exact ⟨ho, F1 ++ (F2 ++ G'), ⟨F1, F2 ++ G', h1, ⟨F2, G', h2, hL, fun k hk => hd k (List.mem_append_right _ hk), rfl⟩, fun k hk hk' => by
    rcases List.mem_append.1 hk' with h | h
    · exact h3 k hk h
    · exact hd k (List.mem_append_left _ hk) h, rfl⟩, fun k hk => hm k (by rw [List.append_assoc]; exact hk)⟩
theorem Sat.sep {a b : Chk} (H : Sat O w0 w (a :: b :: L)) : Sat O w0 w (cSep a b :: L) := by
  obtain ⟨ho, G, ⟨F1, G1, h1, ⟨F2, G', h2, hL, hd2, hG1⟩, hd, hG⟩, hm⟩ := H
  subst hG1; subst hG
  exact ⟨ho, (F1 ++ F2) ++ G', ⟨F1 ++ F2, G', ⟨F1, F2, h1, h2, fun k hk h => hd k hk (List.mem_append_left _ h), rfl⟩, hL, fun k hk hk' => by
    rcases List.mem_append.1 hk with h | h
    · exact hd k h (List.mem_append_right _ hk')
    · exact hd2 k h hk', rfl⟩, fun k hk => hm k (by rw [List.append_assoc] at hk; exact hk)⟩
theorem Sat.unex {α : Type} {f : α → Chk} (H : Sat O w0 w (cEx f :: L)) : ∃ a, Sat O w0 w (f a :: L) := by
  obtain ⟨ho, G, ⟨F, G', ⟨a, h1⟩, hL, hd, hG⟩, hm⟩ := H
  exact ⟨a, ho, G, ⟨F, G', h1, hL, hd, hG⟩, hm⟩
theorem Sat.ex {α : Type} {f : α → Chk} (a : α) (H : Sat O w0 w (f a :: L)) : Sat O w0 w (cEx f :: L) := by
  obtain ⟨ho, G, ⟨F, G', h1, hL, hd, hG⟩, hm⟩ := H
  exact ⟨ho, G, ⟨F, G', ⟨a, h1⟩, hL, hd, hG⟩, hm⟩
theorem Sat.unpure {φ : Prop} (H : Sat O w0 w (cPure φ :: L)) : φ ∧ Sat O w0 w L := by
  obtain ⟨ho, G, ⟨F, G', ⟨h1, h2⟩, hL, hd, hG⟩, hm⟩ := H
  subst h2
  rw [List.nil_append] at hG
  rw [← hG] at hL
  exact ⟨h1, ho, G, hL, hm⟩
theorem Sat.pure {φ : Prop} (h : φ) (H : Sat O w0 w L) : Sat O w0 w (cPure φ :: L) := by
  obtain ⟨ho, G, hL, hm⟩ := H
  exact ⟨ho, G, ⟨[], G, ⟨h, rfl⟩, hL, fun _ h => (by cases h), rfl⟩, hm⟩
end
/-- A slice that begins an owned row, cut at its end. -/
theorem OwnS.chop {w : World} {e sz n c k : Nat} {A : Option Addr} {xs : List Value} (h : OwnS w e sz A n c xs) (hk : k ≤ n) : OwnS w e sz A k c (xs.take (k * sz)) := by
  have hle : k * sz ≤ n * sz := Nat.mul_le_mul_right _ hk
  refine ⟨by rw [List.length_take, h.len]; omega, Nat.le_trans hk h.cap, h.max, ?_⟩
  rcases h.row with h1 | ⟨g, cur, fz, h1, h2, h3, h4, h5⟩
  · exact .inl h1
  · refine .inr ⟨g, cur, fz, h1, h2, h3, h4, ?_⟩
    rw [← h5, List.take_take, Nat.min_eq_left hle]
theorem Sat.chop {O : List Nat} {w0 w : World} {L : List Chk} {q e sz n c k : Nat} {A : Option Addr} {xs : List Value} (H : Sat O w0 w L) (hq : nth L q = some (cOwn e sz A n c xs)) (hk : k ≤ n) : Sat O w0 w (setAt L q (cOwn e sz A k c (xs.take (k * sz)))) :=
  H.setOwn hq (Only.refl _ _) ((H.own_ hq).chop hk) fun j hj => .inl hj
end Go.Q
namespace Go.Q
open Go.RowKit
theorem Sat.focusNew {w0 w : World} {L : List Chk} {c : Chk} {k : Nat} (H : Sat [] w0 w L) (h : nth L k = some c) : ∃ F, c.p w F ∧ (∀ j ∈ F, w0.heap.size ≤ j) ∧ ∀ {w' : World} {c' : Chk}, Upd c' F w w' → Sat [] w0 w' (setAt L k c') := by
  obtain ⟨G, h1, h2⟩ := H.own
  obtain ⟨F, h3, h4, h5⟩ := h1.focus h
  have hF : ∀ j ∈ F, w0.heap.size ≤ j := fun j hj => (h2 j (h4 j hj)).resolve_left (fun h => by cases h)
  refine ⟨F, h3, hF, fun {w' c'} hu => ?_⟩
  obtain ⟨G', h6, h7⟩ := h5 w' c' hu
  refine ⟨⟨hu.1.os.trans H.only.os, hu.1.tape.trans H.only.tape, hu.1.output.trans H.only.output, Nat.le_trans H.only.size hu.1.size, fun j hj hn => ?_⟩, G', h6, fun j hj => ?_⟩
  · refine (hu.1.block j (Nat.lt_of_lt_of_le hj H.only.size) fun hF' => ?_).trans (H.only.block j hj hn)
    have := hF j hF'
    omega
  · rcases h7 j hj with h | h
    · exact h2 j h
    · exact .inr (Nat.le_trans H.only.size h)
/-- A region that draws its order, in which one thing is turned by a call: reads of what is older than the body are told of all worlds that part from the region's first one on that thing's blocks alone. -/
theorem cw_drawF {P : Program} {ops : Array Oper} {n : Nat} {Q : Exit → Act → World → Prop} {w0 w : World} {L : List Chk} {c : Chk} {k : Nat} {id : Nat} {f : Nat → Value} (H : Sat [] w0 w L) (hq : nth L k = some c) (hm : P.follows .mixedOrders = true)
    (cl : Nat → Cl) (l : List Nat) (hok : okOrd ops cl l = true) (hb : okBound n ops = true)
    (h : ∀ wr F, Below w.heap.size w wr → Sat [] w0 wr L → c.p wr F → (∀ {w' : World} {c' : Chk}, Upd c' F wr w' → Sat [] w0 w' (setAt L k c')) → (∀ x, Only F wr x → Below w0.heap.size w0 x) → TF P ops n Q (fun x => Only F wr x) cl l f wr) :
    (Code.region id ops true).wp P Q (E n f) w := by
  have H1 := H.below (below_drew w)
  obtain ⟨F, h3, h4, hU⟩ := H1.focusNew hq
  refine cw_draw hm (fun x => Only F w.drew x) cl l hok hb (Only.refl _ _) (h _ F (below_drew w) H1 h3 hU fun x hx => ?_)
  have hb1 := H1.base
  refine ⟨hx.os.trans hb1.os, hx.tape.trans hb1.tape, hx.output.trans hb1.output, Nat.le_trans hb1.size hx.size, fun j hj => (hx.block j (Nat.lt_of_lt_of_le hj hb1.size) fun hF => ?_).trans (hb1.block j hj)⟩
  have := h4 j hF
  omega
end Go.Q
