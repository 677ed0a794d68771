/- Memory: what a slice reads, what a call owns, and how the world goes on. Conditions: none. -/
import Derived.Test.YtpncaeadbfdflaaCore2
import Derived.WalkKit
import Derived.Lib.FrozenHead
import Derived.Lib.ConvBytes
set_option linter.unusedSimpArgs false
set_option linter.unusedVariables false
namespace Go.Q
open Go.RowKit

/-! ### 1. Addresses, cells -/
theorem add_block (a : Addr) (n : Nat) : (a.add n).block = a.block := by unfold Addr.add; split <;> rfl
theorem add_add (a : Addr) (i j : Nat) : (a.add i).add j = a.add (i + j) := by
  unfold Addr.add
  by_cases hi : i = 0 <;> by_cases hj : j = 0 <;> simp [hi, hj, Nat.add_assoc]
theorem add_zero (a : Addr) : a.add 0 = a := by simp [Addr.add]
theorem add_at (g i : Nat) : (⟨g, 0, none⟩ : Addr).add i = ⟨g, i, none⟩ := by unfold Addr.add; split <;> simp_all
theorem add_off (g o i : Nat) : (⟨g, o, none⟩ : Addr).add i = ⟨g, o + i, none⟩ := by unfold Addr.add; split <;> simp_all
theorem cell_lt {w : World} {a : Addr} {v : Value} (h : w.cell? a = some v) : a.block < w.heap.size := by
  rcases Nat.lt_or_ge a.block w.heap.size with h1 | h1
  · exact h1
  · simp [World.cell?, Array.getElem?_eq_none h1] at h
theorem cell_same {w w' : World} {a : Addr} (h : w'.heap[a.block]? = w.heap[a.block]?) : w'.cell? a = w.cell? a := by simp [World.cell?, h]
theorem below_cell {w w' : World} (hb : Below w.heap.size w w') {a : Addr} {v : Value} (h : w.cell? a = some v) : w'.cell? a = some v := (hb.cell (cell_lt h)).trans h
theorem below_trans {a b c : World} (h : Below a.heap.size a b) (k : Below b.heap.size b c) : Below a.heap.size a c := h.trans (k.mono h.size)
theorem below_drew (w : World) : Below w.heap.size w w.drew := (Below.refl _ _).drew
theorem below_drew' {B : Nat} {w W : World} (h : Below B w W) : Below B w W.drew := h.drew
theorem below_alloc (w : World) (o : Obj) : Below w.heap.size w (w.alloc o) := (Below.refl _ _).alloc (Nat.le_refl _) o

/-! ### 2. A slice that is read: 'sz' cells an element -/
structure RdS (w : World) (sz : Nat) (A : Option Addr) (n c : Nat) (xs : List Value) : Prop where
  len : xs.length = n * sz
  cap : n ≤ c
  max : c ≤ maxLen
  cells : 0 < n → ∃ ad, A = some ad ∧ ∀ j u, xs[j]? = some u → w.cell? (ad.add j) = some u
theorem RdS.below {w w' : World} {sz n c : Nat} {A : Option Addr} {xs : List Value} (h : RdS w sz A n c xs) (hb : Below w.heap.size w w') : RdS w' sz A n c xs :=
  ⟨h.len, h.cap, h.max, fun hn => by
    obtain ⟨ad, e, hc⟩ := h.cells hn
    exact ⟨ad, e, fun j u hu => below_cell hb (hc j u hu)⟩⟩
theorem RdS.nil (w : World) (sz : Nat) : RdS w sz none 0 0 [] := ⟨by simp, Nat.le_refl _, by simp [maxLen], fun h => absurd h (by omega)⟩
/-- Where s[lo:hi:m] begins. -/
def cutA (A : Option Addr) (m lo sz : Nat) : Option Addr := if m = lo then A else A.map (·.add (lo * sz))
/-- s[lo:hi] -/
theorem RdS.cut {w : World} {sz n c : Nat} {A : Option Addr} {xs : List Value} (h : RdS w sz A n c xs) {lo hi m n' c' : Nat} (h1 : lo ≤ hi) (h2 : hi ≤ n) (h3 : hi ≤ m) (h4 : m ≤ c) (hn' : hi - lo = n') (hc' : m - lo = c') :
    RdS w sz (cutA A m lo sz) n' c' ((xs.drop (lo * sz)).take (n' * sz)) := by
  subst hn' hc'
  unfold cutA
  have hle : hi * sz ≤ n * sz := Nat.mul_le_mul_right _ h2
  have hlo : lo * sz ≤ hi * sz := Nat.mul_le_mul_right _ h1
  refine ⟨by rw [List.length_take, List.length_drop, h.len, Nat.sub_mul]; omega, by omega, by have := h.max; omega, fun hn => ?_⟩
  obtain ⟨ad, rfl, hc⟩ := h.cells (by omega)
  rw [if_neg (by omega)]
  refine ⟨ad.add (lo * sz), rfl, fun j u hu => ?_⟩
  rw [add_add]
  refine hc _ u ?_
  rw [List.getElem?_take] at hu
  split at hu
  · rw [← hu, List.getElem?_drop]
  · cases hu

/-- bytes as cells -/
def u8 (b : UInt8) : Value := .int .u8 (b.toNat : Int)
def u8s (bs : List UInt8) : List Value := bs.map u8
theorem u8s_len (bs : List UInt8) : (u8s bs).length = bs.length := by simp [u8s]
theorem u8s_app (a b : List UInt8) : u8s (a ++ b) = u8s a ++ u8s b := by simp [u8s]
theorem u8s_take (a : List UInt8) (n : Nat) : (u8s a).take n = u8s (a.take n) := by simp [u8s]
theorem u8s_drop (a : List UInt8) (n : Nat) : (u8s a).drop n = u8s (a.drop n) := by simp [u8s]
theorem u8s_get (a : List UInt8) (n : Nat) : (u8s a)[n]? = (a[n]?).map u8 := by simp [u8s]
theorem u8s_one {u : Value} {a : List UInt8} (h : u ∈ u8s a) : u.oneCell' = true := by
  obtain ⟨b, _, rfl⟩ := List.mem_map.1 h
  rfl
abbrev RdB (w : World) (A : Option Addr) (n c : Nat) (bs : List UInt8) : Prop := RdS w 1 A n c (u8s bs)
theorem RdB.length {w : World} {A : Option Addr} {n c : Nat} {bs : List UInt8} (h : RdB w A n c bs) : bs.length = n := by
  have := h.len
  rw [u8s_len] at this
  omega
theorem RdB.cut {w : World} {n c : Nat} {A : Option Addr} {bs : List UInt8} (h : RdB w A n c bs) {lo hi m n' c' : Nat} (h1 : lo ≤ hi) (h2 : hi ≤ n) (h3 : hi ≤ m) (h4 : m ≤ c) (hn' : hi - lo = n') (hc' : m - lo = c') :
    RdB w (cutA A m lo 1) n' c' ((bs.drop lo).take n') := by
  have := RdS.cut h h1 h2 h3 h4 hn' hc'
  simp only [Nat.mul_one, u8s_drop, u8s_take] at this ⊢
  exact this

/-! ### 3. Only some blocks have turned -/
structure Only (F : List Nat) (w w' : World) : Prop where
  os : w'.os = w.os
  tape : w'.tape = w.tape
  output : w'.output = w.output
  size : w.heap.size ≤ w'.heap.size
  block : ∀ k, k < w.heap.size → k ∉ F → w'.heap[k]? = w.heap[k]?
theorem Only.below {w w' : World} (h : Only [] w w') : Below w.heap.size w w' := ⟨h.os, h.tape, h.output, h.size, fun k hk => h.block k hk (by simp)⟩
theorem Only.of_below {w w' : World} (F : List Nat) (h : Below w.heap.size w w') : Only F w w' := ⟨h.os, h.tape, h.output, h.size, fun k hk _ => h.block k hk⟩
theorem Only.refl (F : List Nat) (w : World) : Only F w w := .of_below F (Below.refl _ _)
theorem Only.trans {F : List Nat} {a b c : World} (h : Only F a b) (k : Only F b c) : Only F a c :=
  ⟨k.os.trans h.os, k.tape.trans h.tape, k.output.trans h.output, Nat.le_trans h.size k.size, fun i hi hn => (k.block i (Nat.lt_of_lt_of_le hi h.size) hn).trans (h.block i hi hn)⟩
theorem Only.setCell (w : World) (a : Addr) (u : Value) : Only [a.block] w (w.setCell a u) :=
  ⟨rfl, rfl, rfl, by simp [World.setCell], fun k hk hn => Below.heap_setCell w a u k (by simpa using hn)⟩

/-! ### 4. What is owned: a thing in memory, and the blocks on which it lies -/
structure Chk where
  p : World → List Nat → Prop
  loc : ∀ {w w' : World} {F : List Nat}, p w F → (∀ k ∈ F, w'.heap[k]? = w.heap[k]?) → p w' F
  inb : ∀ {w : World} {F : List Nat}, p w F → ∀ k ∈ F, k < w.heap.size
def SatL (w : World) : List Chk → List Nat → Prop
  | [], G => G = []
  | c :: L, G => ∃ F G', c.p w F ∧ SatL w L G' ∧ (∀ k ∈ F, k ∉ G') ∧ G = F ++ G'
def nth : List Chk → Nat → Option Chk
  | [], _ => none
  | c :: _, 0 => some c
  | _ :: L, k + 1 => nth L k
def setAt : List Chk → Nat → Chk → List Chk
  | [], _, _ => []
  | _ :: L, 0, c => c :: L
  | a :: L, k + 1, c => a :: setAt L k c
def delAt : List Chk → Nat → List Chk
  | [], _ => []
  | _ :: L, 0 => L
  | a :: L, k + 1 => a :: delAt L k
theorem SatL.loc {w w' : World} : ∀ {L : List Chk} {G : List Nat}, SatL w L G → (∀ k ∈ G, w'.heap[k]? = w.heap[k]?) → SatL w' L G
  | [], _, h, _ => h
  | c :: L, G, ⟨F, G', hc, hL, hd, hG⟩, hk => by
    subst hG
    exact ⟨F, G', c.loc hc (fun k h => hk k (List.mem_append_left _ h)), hL.loc (fun k h => hk k (List.mem_append_right _ h)), hd, rfl⟩
theorem SatL.inb {w : World} : ∀ {L : List Chk} {G : List Nat}, SatL w L G → ∀ k ∈ G, k < w.heap.size
  | [], _, h, k, hk => by rw [show _ = [] from h] at hk; cases hk
  | c :: L, G, ⟨F, G', hc, hL, _, hG⟩, k, hk => by
    subst hG
    rcases List.mem_append.1 hk with h | h
    · exact c.inb hc k h
    · exact hL.inb k h
theorem SatL.get {w : World} : ∀ {L : List Chk} {G : List Nat} {k : Nat} {c : Chk}, SatL w L G → nth L k = some c → ∃ F, c.p w F ∧ ∀ j ∈ F, j ∈ G
  | [], _, _, _, _, h => by cases h
  | c :: L, G, 0, _, ⟨F, G', hc, hL, _, hG⟩, h => by
    cases h
    subst hG
    exact ⟨F, hc, fun j hj => List.mem_append_left _ hj⟩
  | c :: L, G, k + 1, c', ⟨F, G', hc, hL, _, hG⟩, h => by
    obtain ⟨F', h1, h2⟩ := SatL.get (k := k) hL h
    subst hG
    exact ⟨F', h1, fun j hj => List.mem_append_right _ (h2 j hj)⟩
/-- One thing turns into another: on its blocks, or on new ones. -/
theorem SatL.upd {w w' : World} {c' : Chk} : ∀ {L : List Chk} {G : List Nat} {k : Nat} {c : Chk}, SatL w L G → nth L k = some c →
    (∀ F, c.p w F → ∃ F', c'.p w' F' ∧ (∀ j ∈ F', j ∈ F ∨ w.heap.size ≤ j) ∧ ∀ j, j < w.heap.size → j ∉ F → w'.heap[j]? = w.heap[j]?) →
    ∃ G', SatL w' (setAt L k c') G' ∧ (∀ j ∈ G', j ∈ G ∨ w.heap.size ≤ j) ∧ (∀ j, j < w.heap.size → j ∉ G → w'.heap[j]? = w.heap[j]?)
  | [], _, _, _, _, h, _ => by cases h
  | c :: L, G, 0, _, ⟨F, G', hc, hL, hd, hG⟩, h, hu => by
    cases h
    subst hG
    obtain ⟨F', h1, h2, h3⟩ := hu F hc
    have hL' : SatL w' L G' := hL.loc fun k hk => h3 k (hL.inb k hk) (fun hF => hd k hF hk)
    refine ⟨F' ++ G', ⟨F', G', h1, hL', fun k hk hk' => ?_, rfl⟩, fun j hj => ?_, fun j hj hn => h3 j hj fun h => hn (List.mem_append_left _ h)⟩
    · rcases h2 k hk with h | h
      · exact hd k h hk'
      · have := hL.inb k hk'
        omega
    · rcases List.mem_append.1 hj with h | h
      · rcases h2 j h with h | h
        · exact .inl (List.mem_append_left _ h)
        · exact .inr h
      · exact .inl (List.mem_append_right _ h)
  | c :: L, G, k + 1, c0, ⟨F, G', hc, hL, hd, hG⟩, h, hu => by
    subst hG
    obtain ⟨G2, h1, h2, h3⟩ := SatL.upd (k := k) hL h hu
    refine ⟨F ++ G2, ⟨F, G2, c.loc hc fun j hj => h3 j (c.inb hc j hj) (hd j hj), h1, fun j hj hj' => ?_, rfl⟩, fun j hj => ?_, fun j hj hn => h3 j hj fun h => hn (List.mem_append_right _ h)⟩
    · rcases h2 j hj' with h | h
      · exact hd j hj h
      · have := c.inb hc j hj
        omega
    · rcases List.mem_append.1 hj with h | h
      · exact .inl (List.mem_append_left _ h)
      · rcases h2 j h with h | h
        · exact .inl (List.mem_append_right _ h)
        · exact .inr h
theorem SatL.del {w : World} : ∀ {L : List Chk} {G : List Nat} (k : Nat), SatL w L G → ∃ G', SatL w (delAt L k) G' ∧ ∀ j ∈ G', j ∈ G
  | [], G, _, h => ⟨G, h, fun _ h => h⟩
  | c :: L, G, 0, ⟨F, G', hc, hL, _, hG⟩ => by
    subst hG
    exact ⟨G', hL, fun j hj => List.mem_append_right _ hj⟩
  | c :: L, G, k + 1, ⟨F, G', hc, hL, hd, hG⟩ => by
    subst hG
    obtain ⟨G2, h1, h2⟩ := SatL.del k hL
    refine ⟨F ++ G2, ⟨F, G2, hc, h1, fun j hj hj' => hd j hj (h2 j hj'), rfl⟩, fun j hj => ?_⟩
    rcases List.mem_append.1 hj with h | h
    · exact List.mem_append_left _ h
    · exact List.mem_append_right _ (h2 j h)

/-- The state of a walk: w is w0 (the world of the entry) but on the blocks O, and owns the things of L, apart from each other, on O's blocks or on new ones. -/
structure Sat (O : List Nat) (w0 w : World) (L : List Chk) : Prop where
  only : Only O w0 w
  own : ∃ G, SatL w L G ∧ ∀ k ∈ G, k ∈ O ∨ w0.heap.size ≤ k

section
variable {O : List Nat} {w0 w w' : World} {L : List Chk} {c c' : Chk} {k : Nat}
theorem Sat.start (w : World) : Sat [] w w [] := ⟨.refl _ _, [], rfl, fun _ h => by cases h⟩
theorem Sat.start1 {F : List Nat} (h : c.p w F) : Sat F w w [c] := ⟨.refl _ _, F ++ [], ⟨F, [], h, rfl, (fun _ _ h => by cases h), rfl⟩, fun k hk => .inl (by simpa using hk)⟩
theorem Sat.base (H : Sat [] w0 w L) : Below w0.heap.size w0 w := H.only.below
theorem Sat.below (H : Sat O w0 w L) (h : Below w.heap.size w w') : Sat O w0 w' L :=
  ⟨H.only.trans (.of_below _ h), let ⟨G, h1, h2⟩ := H.own; ⟨G, h1.loc fun k hk => h.block k (h1.inb k hk), h2⟩⟩
theorem Sat.new {F : List Nat} (H : Sat O w0 w L) (h : Below w.heap.size w w') (hc : c.p w' F) (hF : ∀ j ∈ F, w.heap.size ≤ j) : Sat O w0 w' (c :: L) := by
  obtain ⟨G, h1, h2⟩ := (H.below h).own
  obtain ⟨G0, h3, h4⟩ := H.own
  have h5 := h3.loc (w' := w') fun k hk => h.block k (h3.inb k hk)
  refine ⟨(H.below h).only, F ++ G0, ⟨F, G0, hc, h5, fun j hj hj' => ?_, rfl⟩, fun j hj => ?_⟩
  · have := h3.inb j hj'
    have := hF j hj
    omega
  · rcases List.mem_append.1 hj with h' | h'
    · exact .inr (Nat.le_trans H.only.size (hF j h'))
    · exact h4 j h'
theorem Sat.get (H : Sat O w0 w L) (h : nth L k = some c) : ∃ F, c.p w F := let ⟨G, h1, _⟩ := H.own; let ⟨F, h2, _⟩ := h1.get h; ⟨F, h2⟩
theorem Sat.upd (H : Sat O w0 w L) (h : nth L k = some c) (he : w'.os = w.os ∧ w'.tape = w.tape ∧ w'.output = w.output ∧ w.heap.size ≤ w'.heap.size)
    (hu : ∀ F, c.p w F → ∃ F', c'.p w' F' ∧ (∀ j ∈ F', j ∈ F ∨ w.heap.size ≤ j) ∧ ∀ j, j < w.heap.size → j ∉ F → w'.heap[j]? = w.heap[j]?) : Sat O w0 w' (setAt L k c') := by
  obtain ⟨G, h1, h2⟩ := H.own
  obtain ⟨G', h3, h4, h5⟩ := h1.upd h hu
  refine ⟨⟨he.1.trans H.only.os, he.2.1.trans H.only.tape, he.2.2.1.trans H.only.output, Nat.le_trans H.only.size he.2.2.2, fun j hj hn => ?_⟩, G', h3, fun j hj => ?_⟩
  · refine (h5 j (Nat.lt_of_lt_of_le hj H.only.size) fun hG => ?_).trans (H.only.block j hj hn)
    rcases h2 j hG with h | h
    · exact hn h
    · omega
  · rcases h4 j hj with h | h
    · exact h2 j h
    · exact .inr (Nat.le_trans H.only.size h)
theorem Sat.del (H : Sat O w0 w L) (k : Nat) : Sat O w0 w (delAt L k) :=
  ⟨H.only, let ⟨G, h1, h2⟩ := H.own; let ⟨G', h3, h4⟩ := h1.del k; ⟨G', h3, fun j hj => h2 j (h4 j hj)⟩⟩
end

/-! ### 5. A block that is known whole -/
def Blk (w : World) (b : Nat) (t : TypeId) (cs : List Value) : Prop := w.heap[b]? = some (.cells ⟨cs⟩ t (0, 0))
section
variable {w w' : World} {b : Nat} {t : TypeId} {cs : List Value}
theorem Blk.lt (h : Blk w b t cs) : b < w.heap.size := (Array.getElem?_eq_some_iff.1 h).1
theorem Blk.below (h : Blk w b t cs) (hb : Below w.heap.size w w') : Blk w' b t cs := (hb.block b h.lt).trans h
theorem Blk.cell (h : Blk w b t cs) (i : Nat) : w.cell? ⟨b, i, none⟩ = cs[i]? := by
  unfold Blk at h
  simp [World.cell?, h]
theorem Blk.frozen (h : Blk w b t cs) (i : Nat) : w.frozen? ⟨b, i, none⟩ = false := by
  unfold Blk at h
  simp [World.frozen?, h]
theorem Blk.set (h : Blk w b t cs) (i : Nat) (u : Value) : Blk (w.setCell ⟨b, i, none⟩ u) b t (cs.set i u) := by
  unfold Blk at h ⊢
  simp [World.setCell, Array.getElem?_modify, h]
theorem Blk.new (w : World) (t : TypeId) (cs : List Value) : Blk (w.alloc (.cells ⟨cs⟩ t)) w.heap.size t cs := heap_alloc_new w _
end
def cBlk (b : Nat) (t : TypeId) (cs : List Value) : Chk where
  p w F := Blk w b t cs ∧ F = [b]
  loc := fun h hk => ⟨(hk b (by simp [h.2])).trans h.1, h.2⟩
  inb := fun h k hk => by rw [h.2] at hk; simp at hk; subst hk; exact h.1.lt
theorem Sat.blk {O : List Nat} {w0 w : World} {L : List Chk} {k b : Nat} {t : TypeId} {cs : List Value} (H : Sat O w0 w L) (h : nth L k = some (cBlk b t cs)) : Blk w b t cs :=
  let ⟨_, h1⟩ := H.get h; h1.1
theorem Sat.alloc {O : List Nat} {w0 w : World} {L : List Chk} (H : Sat O w0 w L) (t : TypeId) (cs : List Value) : Sat O w0 (w.alloc (.cells ⟨cs⟩ t)) (cBlk w.heap.size t cs :: L) :=
  H.new (F := [w.heap.size]) (below_alloc w _) ⟨Blk.new w t cs, rfl⟩ (fun j hj => by simp at hj; omega)
theorem Sat.setBlk {O : List Nat} {w0 w w' : World} {L : List Chk} {k b : Nat} {t : TypeId} {cs cs' : List Value} (H : Sat O w0 w L) (h : nth L k = some (cBlk b t cs)) (ho : Only [b] w w') (hb : Blk w' b t cs') :
    Sat O w0 w' (setAt L k (cBlk b t cs')) :=
  H.upd h ⟨ho.os, ho.tape, ho.output, ho.size⟩ fun F hF => ⟨[b], ⟨hb, rfl⟩, fun j hj => .inl (by rw [hF.2]; exact hj), fun j hj hn => ho.block j hj (by rw [hF.2] at hn; exact hn)⟩

/-- A region that draws its order, over a state. -/
theorem cw_drawS {P : Program} {ops : Array Oper} {n : Nat} {Q : Exit → Act → World → Prop} {O : List Nat} {w0 w : World} {L : List Chk} {id : Nat} {f : Nat → Value} (H : Sat O w0 w L) (hm : P.follows .mixedOrders = true) (cl : Nat → Cl) (l : List Nat) (hok : okOrd ops cl l = true)
    (hb : okBound n ops = true) (h : ∀ wr, Below w.heap.size w wr → Sat O w0 wr L → Below wr.heap.size wr wr → TF P ops n Q (fun w' => Below wr.heap.size wr w') cl l f wr) : (Code.region id ops true).wp P Q (E n f) w :=
  cw_draw hm (fun w' => Below w.drew.heap.size w.drew w') cl l hok hb (Below.refl _ _) (h w.drew (below_drew w) (H.below (below_drew w)) (Below.refl _ _))

/-! ### 6. A slice that is owned -/

/-- The slice (A, n, c) of elements of type e, sz cells each, begins a row of the call's own, and holds xs; of what stands behind its length nothing is said. -/
structure OwnS (w : World) (e sz : Nat) (A : Option Addr) (n c : Nat) (xs : List Value) : Prop where
  len : xs.length = n * sz
  cap : n ≤ c
  max : c ≤ maxLen
  row : (A = none ∧ c = 0) ∨ ∃ g cur fz, A = some ⟨g, 0, none⟩ ∧ w.heap[g]? = some (.cells cur e fz) ∧ cur.size = c * sz ∧ (cur.size ≤ fz.1 ∨ fz = (0, 0)) ∧ cur.toList.take (n * sz) = xs
def ownF : Option Addr → List Nat
  | none => []
  | some a => [a.block]
section
variable {w w' : World} {e sz n c : Nat} {A : Option Addr} {xs : List Value}
theorem OwnS.loc (h : OwnS w e sz A n c xs) (hk : ∀ k ∈ ownF A, w'.heap[k]? = w.heap[k]?) : OwnS w' e sz A n c xs :=
  ⟨h.len, h.cap, h.max, by
    rcases h.row with h1 | ⟨g, cur, fz, rfl, h1, r⟩
    · exact .inl h1
    · exact .inr ⟨g, cur, fz, rfl, (hk g (by simp [ownF])).trans h1, r⟩⟩
theorem OwnS.inb (h : OwnS w e sz A n c xs) : ∀ k ∈ ownF A, k < w.heap.size := by
  rcases h.row with ⟨rfl, _⟩ | ⟨g, cur, fz, rfl, h1, _⟩
  · intro k hk; cases hk
  · intro k hk
    simp [ownF] at hk
    subst hk
    exact (Array.getElem?_eq_some_iff.1 h1).1
theorem OwnS.nil (w : World) (e sz : Nat) : OwnS w e sz none 0 0 [] := ⟨by simp, Nat.le_refl _, by simp [maxLen], .inl ⟨rfl, rfl⟩⟩
theorem OwnS.rd (h : OwnS w e sz A n c xs) : RdS w sz A n c xs :=
  ⟨h.len, h.cap, h.max, fun hn => by
    rcases h.row with ⟨rfl, h1⟩ | ⟨g, cur, fz, rfl, h1, h2, h3, h4⟩
    · have := h.cap; omega
    · refine ⟨_, rfl, fun j u hu => ?_⟩
      rw [add_at]
      rw [← h4, List.getElem?_take] at hu
      split at hu
      · simp [World.cell?, h1]
        simpa using hu
      · cases hu⟩
end
/-- A slice in new memory, and nothing else has turned: what a call hands back. -/
structure NewS (w w' : World) (e sz : Nat) (A : Option Addr) (n c : Nat) (xs : List Value) : Prop where
  below : Below w.heap.size w w'
  own : OwnS w' e sz A n c xs
  new : ∀ j ∈ ownF A, w.heap.size ≤ j
abbrev NewB (w w' : World) (e : Nat) (A : Option Addr) (n c : Nat) (bs : List UInt8) : Prop := NewS w w' e 1 A n c (u8s bs)
def cOwn (e sz : Nat) (A : Option Addr) (n c : Nat) (xs : List Value) : Chk where
  p w F := OwnS w e sz A n c xs ∧ F = ownF A
  loc := fun h hk => ⟨h.1.loc (by rw [← h.2]; exact hk), h.2⟩
  inb := fun h k hk => h.1.inb k (by rw [← h.2]; exact hk)
abbrev cOwnB (e : Nat) (A : Option Addr) (n c : Nat) (bs : List UInt8) : Chk := cOwn e 1 A n c (u8s bs)
section
variable {O : List Nat} {w0 w w' : World} {L : List Chk} {k e sz n c : Nat} {A : Option Addr} {xs : List Value}
theorem Sat.own_ (H : Sat O w0 w L) (h : nth L k = some (cOwn e sz A n c xs)) : OwnS w e sz A n c xs := let ⟨_, h1⟩ := H.get h; h1.1
theorem Sat.rd (H : Sat O w0 w L) (h : nth L k = some (cOwn e sz A n c xs)) : RdS w sz A n c xs := (H.own_ h).rd
theorem Sat.rdB {bs : List UInt8} (H : Sat O w0 w L) (h : nth L k = some (cOwnB e A n c bs)) : RdB w A n c bs := (H.own_ h).rd
theorem Sat.newOwn (H : Sat O w0 w L) (h : Below w.heap.size w w') (ho : OwnS w' e sz A n c xs) (hn : ∀ j ∈ ownF A, w.heap.size ≤ j) : Sat O w0 w' (cOwn e sz A n c xs :: L) :=
  H.new (F := ownF A) h ⟨ho, rfl⟩ hn
theorem Sat.newS (H : Sat O w0 w L) (h : NewS w w' e sz A n c xs) : Sat O w0 w' (cOwn e sz A n c xs :: L) := H.newOwn h.below h.own h.new
/-- What a body made, handed back. -/
theorem Sat.toNew {k : Nat} (H : Sat [] w0 w L) (h : nth L k = some (cOwn e sz A n c xs)) : NewS w0 w e sz A n c xs := by
  refine ⟨H.base, H.own_ h, fun j hj => ?_⟩
  obtain ⟨G, h1, h2⟩ := H.own
  obtain ⟨F, h3, h4⟩ := h1.get h
  rcases h2 j (h4 j (by rw [h3.2]; exact hj)) with h5 | h5
  · cases h5
  · exact h5
theorem NewS.nil (w : World) (e sz : Nat) : NewS w w e sz none 0 0 [] := ⟨Below.refl _ _, OwnS.nil w e sz, fun _ h => by cases h⟩
theorem NewS.nilB {w w' : World} (h : Below w.heap.size w w') (e sz : Nat) : NewS w w' e sz none 0 0 [] := ⟨h, OwnS.nil w' e sz, fun _ h => by cases h⟩
theorem Sat.setOwn {A' : Option Addr} {n' c' : Nat} {xs' : List Value} (H : Sat O w0 w L) (h : nth L k = some (cOwn e sz A n c xs)) (ho : Only (ownF A) w w') (hb : OwnS w' e sz A' n' c' xs')
    (hn : ∀ j ∈ ownF A', j ∈ ownF A ∨ w.heap.size ≤ j) : Sat O w0 w' (setAt L k (cOwn e sz A' n' c' xs')) :=
  H.upd h ⟨ho.os, ho.tape, ho.output, ho.size⟩ fun F hF => ⟨ownF A', ⟨hb, rfl⟩, fun j hj => by rw [hF.2]; exact hn j hj, fun j hj hn => ho.block j hj (by rw [hF.2] at hn; exact hn)⟩
end
end Go.Q
