/- Elements of an owned slice that are stored to; made rows kept whole. Conditions: none. -/
import Derived.Test.YtpncaeadbfdflaaCore6
set_option linter.unusedSimpArgs false
set_option linter.unusedVariables false
namespace Go.Q
open Go.RowKit
theorem RdS.none0 {w : World} {sz n c : Nat} {A : Option Addr} {xs : List Value} (h : RdS w sz A n c xs) (hA : A = none) : n = 0 := by
  subst hA
  rcases Nat.eq_zero_or_pos n with h0 | h0
  · exact h0
  · obtain ⟨_, e, _⟩ := h.cells h0
    cases e
theorem bnT {b : Bool} (h : b = true) : (!b) = false := by rw [h]; rfl
theorem bnF {b : Bool} (h : b = false) : (!b) = true := by rw [h]; rfl
theorem RdB.nil (w : World) : RdB w none 0 0 [] := RdS.nil w 1
section
variable {O : List Nat} {w0 w w' : World} {L : List Chk} {k e sz n c : Nat} {A : Option Addr} {xs : List Value}
theorem Sat.ownSome (H : Sat O w0 w L) (h : nth L k = some (cOwn e sz A n c xs)) (hn : 0 < n) : ∃ g, A = some ⟨g, 0, none⟩ := by
  rcases (H.own_ h).row with ⟨_, h1⟩ | ⟨g, _, _, h1, _⟩
  · have := (H.own_ h).cap
    omega
  · exact ⟨g, h1⟩
theorem cutA_some (b o m l sz : Nat) : ∃ o', cutA (some ⟨b, o, none⟩) m l sz = some ⟨b, o', none⟩ := by
  unfold cutA
  split
  · exact ⟨_, rfl⟩
  · exact ⟨_, congrArg some (add_off _ _ _)⟩
end
section
variable {P : Program} {ops : Array Oper} {n : Nat} {Q : Exit → Act → World → Prop} {S : World → Prop} {cl : Nat → Cl} {i : Nat} {l : List Nat}
variable {f : Nat → Value} {w w' W w0 : World} {d : Tmp} {dd : Option Tmp} {t t1 t2 e : TypeId} {pos : String} {aft : Array Edge} {g : Option (Nat × Bool)} {x y z : Operand} {v u : Value} {k k' : IntKind} {a r : Int} {p : Addr}
variable {O : List Nat} {L : List Chk} {A : Option Addr} {m c sz : Nat} {xs : List Value} {bs : List UInt8} {de ds : TypeDesc} {zv : Value} {by1 : Nat}
/-- &s[i] of a slice that begins a block. -/
theorem pr_idxO {b : Nat} (ht : P.underlying t1 = some (.slice e)) (he : Sz P e de sz) (hx : op f x = .slice (some ⟨b, 0, none⟩) m c) (hy : op f y = .int k a) (h0 : 0 ≤ a) (h1 : a < m) {o' : Nat} (ho : a.toNat * sz = o') :
    PR P f ⟨dd, .indexAddr t1 x y, t, pos, aft, g⟩ (.pointer (some ⟨b, o', none⟩)) := by
  subst ho
  have := pr_idx (P := P) (f := f) (dd := dd) (t := t) (pos := pos) (aft := aft) (g := g) ht he hx hy h0 h1
  rw [add_off, Nat.zero_add] at this
  exact this
theorem OwnS.at_ {b j : Nat} {v : Value} (h : OwnS w e sz (some ⟨b, 0, none⟩) m c xs) (hv : xs[j]? = some v) : w.cell? ⟨b, j, none⟩ = some v := by
  rcases h.row with ⟨h1, _⟩ | ⟨g, cur, fz, h1, h2, h3, h4, h5⟩
  · cases h1
  · cases h1
    rw [← h5, List.getElem?_take] at hv
    split at hv
    · simp [World.cell?, h2]
      simpa using hv
    · cases hv
theorem OwnS.set {b j : Nat} {v : Value} (h : OwnS w e sz (some ⟨b, 0, none⟩) m c xs) : OwnS (w.setCell ⟨b, j, none⟩ v) e sz (some ⟨b, 0, none⟩) m c (xs.set j v) := by
  refine ⟨by simpa using h.len, h.cap, h.max, ?_⟩
  rcases h.row with ⟨h1, _⟩ | ⟨g, cur, fz, h1, h2, h3, h4, h5⟩
  · cases h1
  · cases h1
    refine .inr ⟨b, cur.setIfInBounds j v, fz, rfl, ?_, by simpa using h3, by simpa using h4, ?_⟩
    · simp only [World.setCell, Array.getElem?_modify, if_true, h2]
      rfl
    · rw [Array.toList_setIfInBounds, List.take_set, h5]
theorem OwnS.frozen {b j : Nat} (h : OwnS w e sz (some ⟨b, 0, none⟩) m c xs) (hj : j < m * sz) : w.frozen? ⟨b, j, none⟩ = false := by
  rcases h.row with ⟨h1, _⟩ | ⟨g, cur, fz, h1, h2, h3, h4, h5⟩
  · cases h1
  · cases h1
    have hc := h.cap
    have hle : m * sz ≤ c * sz := Nat.mul_le_mul_right _ hc
    simp only [World.frozen?, h2]
    rcases h4 with h6 | h6
    · simp; omega
    · subst h6; simp
/-- s[i] = v, the element of one cell, or one cell of it. -/
theorem TF.storeO {b o : Nat} {q : Nat} (H : Sat O w0 w L) (hq : nth L q = some (cOwn e sz (some ⟨b, 0, none⟩) m c xs)) (ho : ops[i]? = some ⟨none, .store t1 x y, t, pos, aft, g⟩) (hc : cl i = .X)
    (hg : wantF ops f ⟨none, .store t1 x y, t, pos, aft, g⟩ = true) (he : Sz P t1 de 1) (hx : op f x = .pointer (some ⟨b, o, none⟩)) (hv : op f y = v) (h1 : v.oneCell' = true) (hlt : o < m * sz)
    (hk : ∀ w', Only [b] w w' → Sat O w0 w' (setAt L q (cOwn e sz (some ⟨b, 0, none⟩) m c (xs.set o v))) → TF P ops n Q S cl l f w') : TF P ops n Q S cl (i :: l) f w := by
  have hb := H.own_ hq
  have hlt' : o < xs.length := by rw [hb.len]; exact hlt
  have ho2 : Only [b] w (w.setCell ⟨b, o, none⟩ v) := Only.setCell w ⟨b, o, none⟩ v
  refine TF.xs ho hc hg (run_store1 he hx hv h1 (hb.at_ (List.getElem?_eq_getElem hlt')) (hb.frozen hlt)) (hk _ ho2 (H.setOwn hq ho2 hb.set fun j hj => .inl hj))
end
theorem u8s_set (bs : List UInt8) (j : Nat) (b : UInt8) : (u8s bs).set j (u8 b) = u8s (bs.set j b) := by
  simp [u8s, List.map_set]
theorem Blk.rdB {w : World} {b o m c : Nat} {e : TypeId} {cs ds : List UInt8} (h : Blk w b e (u8s cs)) (hl : o + m ≤ cs.length) (hmc : m ≤ c) (h63 : c ≤ maxLen) (hd : (cs.drop o).take m = ds) : RdB w (some ⟨b, o, none⟩) m c ds := by
  subst hd
  have := Blk.rd (sz := 1) (o := o) (m := m) (c := c) h (by rw [u8s_len]; omega) hmc h63
  simpa only [Nat.mul_one, u8s_drop, u8s_take] using this
theorem Sat.toOwn0 {O : List Nat} {w0 w : World} {L : List Chk} {e b q sz nc : Nat} {vs : List Value} (H : Sat O w0 w L) (hq : nth L q = some (cBlk b e vs)) (hl : vs.length = nc * sz) (h63 : nc ≤ maxLen) :
    Sat O w0 w (setAt L q (cOwn e sz (some ⟨b, 0, none⟩) 0 nc [])) := by
  have := H.toOwn (q := q) (sz := sz) (nl := 0) (nc := nc) hq hl (Nat.zero_le _) h63
  simpa using this
/-! ### a literal's row, marked as a constant text's bytes -/
section
variable {P : Program} {ops : Array Oper} {n : Nat} {Q : Exit → Act → World → Prop} {S : World → Prop} {cl : Nat → Cl} {i : Nat} {l : List Nat}
variable {f : Nat → Value} {w w' w0 : World} {d : Tmp} {t t1 e : TypeId} {pos : String} {aft : Array Edge} {g : Option (Nat × Bool)} {x : Operand} {O : List Nat} {L : List Chk}
theorem below_only {wr : World} {b : Nat} (h : Below wr.heap.size wr w) (hb : wr.heap.size ≤ b) (ho : Only [b] w w') : Below wr.heap.size wr w' :=
  ⟨ho.os.trans h.os, ho.tape.trans h.tape, ho.output.trans h.output, Nat.le_trans h.size ho.size, fun k hk => (ho.block k (Nat.lt_of_lt_of_le hk h.size) (by simp; omega)).trans (h.block k hk)⟩
theorem TF.mark {b q m c : Nat} {vs : List Value} {S2 : World → World → Prop} (H : Sat O w0 w L) (hq : nth L q = some (cBlk b e vs)) (ho : ops[i]? = some ⟨some d, .convert t1 t1 x, t, pos, aft, g⟩) (hc : (cl i = .X ∧ ∀ w', S2 w' = S) ∨ (cl i = .P ∧ ∀ w', Only [b] w w' → S2 w' w' ∧ ∀ x, S2 w' x → S x))
    (hg : wantF ops f ⟨some d, .convert t1 t1 x, t, pos, aft, g⟩ = true) (hs : P.underlying t1 = some (.slice e)) (he : P.underlying e = some (.int .u8)) (hx : op f x = .slice (some ⟨b, 0, none⟩) m c)
    (hm : vs.length = m) (hcm : c = m) (h63 : m ≤ maxLen) (hk : ∀ w', Only [b] w w' → Sat O w0 w' (setAt L q (cOwn e 1 (some ⟨b, 0, none⟩) m m vs)) → TF P ops n Q (S2 w') cl l (upd f d (.slice (some ⟨b, 0, none⟩) m m)) w') : TF P ops n Q S cl (i :: l) f w := by
  subst hcm
  have hb := H.blk hq
  have hsh : w.shape? b = some (e, vs.length) := by
    unfold Blk at hb
    simp [World.shape?, hb]
  have hat : (w.freeze ⟨b, vs.length, none⟩ 1).heap[b]? = some (.cells ⟨vs⟩ e (vs.length, vs.length + 1)) := by
    unfold Blk at hb
    unfold World.freeze
    rw [if_neg (by decide)]
    simp only [Array.getElem?_modify, if_true, hb]
    rfl
  have hon : Only [b] w (w.freeze ⟨b, vs.length, none⟩ 1) := by
    unfold World.freeze
    rw [if_neg (by decide)]
    refine ⟨rfl, rfl, rfl, by simp, fun k hk hn => ?_⟩
    simp only [List.mem_singleton] at hn
    simp only [Array.getElem?_modify]
    rw [if_neg (fun h => hn h.symm)]
  have hr : (execOp (op f) ⟨some d, .convert t1 t1 x, t, pos, aft, g⟩).run P w = .ok (.value (.slice (some ⟨b, 0, none⟩) c c)) (w.freeze ⟨b, vs.length, none⟩ 1) := by
    simp [execOp, hx, convert, run_underlying hs, run_underlying he, markStringish, hsh]
  have H' : Sat O w0 (w.freeze ⟨b, vs.length, none⟩ 1) (setAt L q (cOwn e 1 (some ⟨b, 0, none⟩) c c vs)) := by
    refine H.upd hq ⟨hon.os, hon.tape, hon.output, hon.size⟩ fun F hF => ?_
    obtain ⟨hF1, rfl⟩ := hF
    refine ⟨[b], ⟨⟨by simpa using hm, Nat.le_refl _, h63, .inr ⟨b, ⟨vs⟩, _, rfl, hat, by simpa using hm, .inl (by simp), by rw [Nat.mul_one, ← hm]; simp⟩⟩, rfl⟩, fun j hj => .inl hj, fun j hj hn => hon.block j hj hn⟩
  have hK := hk _ hon H'
  rcases hc with ⟨hc, he⟩ | ⟨hc, hS⟩
  · rw [he] at hK
    exact TF.x ho hc hg hr hK
  · exact TF.p ho hc hg hr (hS _ hon).2 (hS _ hon).1 hK
theorem Cx.xx_ {b : Nat} (h : cl i = .X) : (cl i = .X ∧ ∀ w', (fun _ => S : World → World → Prop) w' = S) ∨ (cl i = .P ∧ ∀ w', Only [b] w w' → (fun _ => S : World → World → Prop) w' w' ∧ ∀ x, (fun _ => S : World → World → Prop) w' x → S x) := .inl ⟨h, fun _ => rfl⟩
theorem markRe {b : Nat} {wr : World} (hb : Below wr.heap.size wr w) (hlt : wr.heap.size ≤ b) (h : cl i = .P) : (cl i = .X ∧ ∀ w', (fun w' x => Below w'.heap.size w' x : World → World → Prop) w' = (fun w' => Below wr.heap.size wr w')) ∨ (cl i = .P ∧ ∀ w', Only [b] w w' → Below w'.heap.size w' w' ∧ ∀ x, Below w'.heap.size w' x → Below wr.heap.size wr x) :=
  .inr ⟨h, fun w' h' => ⟨Below.refl _ _, fun x hx => below_trans (below_only hb hlt h') hx⟩⟩
end
theorem u8_inc (b : UInt8) : IntKind.u8.wrap ((b.toNat : Int) + 1) = ((b + 1).toNat : Int) := by
  rw [IntKind.wrap_u8]
  have : (b + 1).toNat = (b.toNat + 1) % 256 := by simp [UInt8.toNat_add]
  rw [this]; omega
end Go.Q
