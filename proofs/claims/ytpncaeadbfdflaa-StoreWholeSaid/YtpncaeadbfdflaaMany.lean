/- Many things apart from each other as one (cAll): one is taken out, put back, or read where it lies; rows of headers and the rows they show. Conditions: none. -/
import Derived.Test.YtpncaeadbfdflaaStoreX
set_option linter.unusedSimpArgs false
set_option linter.unusedVariables false
namespace Go.Q
open Go.RowKit
def cAll (l : List Chk) : Chk where
  p w F := SatL w l F
  loc := fun h hk => h.loc hk
  inb := fun h => h.inb
theorem SatL.unfront {w : World} {c : Chk} : ∀ {l : List Chk} {G : List Nat} (k : Nat), k < l.length → SatL w (c :: delAt l k) G → ∃ G', SatL w (setAt l k c) G' ∧ ∀ j, j ∈ G' ↔ j ∈ G
  | [], _, _, h, _ => absurd h (Nat.not_lt_zero _)
  | a :: l, G, 0, _, h => ⟨G, h, fun _ => Iff.rfl⟩
  | a :: l, G, k + 1, hk, ⟨F0, G1, hc, ⟨F, G2, ha, hL, hd2, hG1⟩, hd, hG⟩ => by
    subst hG1; subst hG
    have hd0 : ∀ j ∈ F0, j ∉ G2 := fun j hj h => hd j hj (List.mem_append_right _ h)
    obtain ⟨G3, h1, h2⟩ := SatL.unfront (c := c) k (Nat.lt_of_succ_lt_succ hk) ⟨F0, G2, hc, hL, hd0, rfl⟩
    refine ⟨F ++ G3, ⟨F, G3, ha, h1, fun j hj hj' => ?_, rfl⟩, fun j => ?_⟩
    · rcases List.mem_append.1 ((h2 j).1 hj') with h | h
      · exact hd j h (List.mem_append_left _ hj)
      · exact hd2 j hj h
    · simp only [List.mem_append, h2 j]
      constructor
      · rintro (h | h | h)
        · exact .inr (.inl h)
        · exact .inl h
        · exact .inr (.inr h)
      · rintro (h | h | h)
        · exact .inr (.inl h)
        · exact .inl h
        · exact .inr (.inr h)
section
variable {O : List Nat} {w0 w : World} {L l : List Chk} {c : Chk} {k : Nat}
theorem Sat.allTake (H : Sat O w0 w (cAll l :: L)) (h : nth l k = some c) : Sat O w0 w (c :: cAll (delAt l k) :: L) := by
  obtain ⟨ho, G, ⟨F, G', hF, hL, hd, hG⟩, hm⟩ := H
  subst hG
  obtain ⟨F', ⟨F1, F2, h1, h2, h3, h4⟩, h5⟩ := SatL.front k hF h
  subst h4
  refine ⟨ho, F1 ++ (F2 ++ G'), ⟨F1, F2 ++ G', h1, ⟨F2, G', h2, hL, fun j hj => hd j ((h5 j).1 (List.mem_append_right _ hj)), rfl⟩, fun j hj hj' => ?_, rfl⟩, fun j hj => ?_⟩
  · rcases List.mem_append.1 hj' with h | h
    · exact h3 j hj h
    · exact hd j ((h5 j).1 (List.mem_append_left _ hj)) h
  · refine hm j ?_
    have := h5 j
    simp only [List.mem_append] at this hj ⊢
    rcases hj with h | h | h
    · exact .inl (this.1 (.inl h))
    · exact .inl (this.1 (.inr h))
    · exact .inr h
theorem Sat.allPut (H : Sat O w0 w (c :: cAll (delAt l k) :: L)) (hk : k < l.length) : Sat O w0 w (cAll (setAt l k c) :: L) := by
  obtain ⟨ho, G, ⟨F1, G1, h1, ⟨F2, G', h2, hL, hd2, hG1⟩, hd, hG⟩, hm⟩ := H
  subst hG1; subst hG
  obtain ⟨F', h3, h4⟩ := SatL.unfront (c := c) (l := l) k hk ⟨F1, F2, h1, h2, fun j hj h => hd j hj (List.mem_append_left _ h), rfl⟩
  refine ⟨ho, F' ++ G', ⟨F', G', h3, hL, fun j hj hj' => ?_, rfl⟩, fun j hj => hm j ?_⟩
  · rcases List.mem_append.1 ((h4 j).1 hj) with h | h
    · exact hd j h (List.mem_append_right _ hj')
    · exact hd2 j h hj'
  · have := h4 j
    simp only [List.mem_append] at this hj ⊢
    rcases hj with h | h
    · rcases this.1 h with h | h
      · exact .inl h
      · exact .inr (.inl h)
    · exact .inr (.inr h)
/-- One of the many is let go for another. -/
theorem Sat.allSwap (H : Sat O w0 w (c :: cAll l :: L)) (hk : k < l.length) : Sat O w0 w (cAll (setAt l k c) :: L) := by
  have hn : ∃ a, nth l k = some a := by
    clear H
    induction l generalizing k with
    | nil => exact absurd hk (Nat.not_lt_zero _)
    | cons a l ih =>
      cases k with
      | zero => exact ⟨a, rfl⟩
      | succ k => exact ih (Nat.lt_of_succ_lt_succ hk)
  obtain ⟨a, ha⟩ := hn
  have H1 : Sat O w0 w (cAll l :: c :: L) := H.front 1 rfl
  have H2 : Sat O w0 w (cAll (delAt l k) :: c :: L) := (H1.allTake ha).del 0
  exact Sat.allPut (H2.front 1 rfl) hk
theorem SatL.nth {w : World} {l : List Chk} {G : List Nat} (h : SatL w l G) {k : Nat} {c : Chk} (hn : nth l k = some c) : ∃ F, c.p w F := let ⟨F, h1, _⟩ := h.get hn; ⟨F, h1⟩
theorem Sat.allGet {q : Nat} (H : Sat O w0 w L) (hq : nth L q = some (cAll l)) (hn : nth l k = some c) : ∃ F, c.p w F := let ⟨F, h⟩ := H.get hq; SatL.nth h hn
end
theorem nth_map {α : Type} (f : α → Chk) : ∀ {rs : List α} {k : Nat} {r : α}, rs[k]? = some r → nth (rs.map f) k = some (f r)
  | [], _, _, h => by simp at h
  | a :: rs, 0, r, h => by simp at h; subst h; rfl
  | a :: rs, k + 1, r, h => nth_map f (rs := rs) (by simpa using h)
theorem setAt_map {α : Type} (f : α → Chk) : ∀ {rs : List α} {k : Nat} {r : α}, setAt (rs.map f) k (f r) = (rs.set k r).map f
  | [], _, _ => rfl
  | a :: rs, 0, r => rfl
  | a :: rs, k + 1, r => by simp only [List.map_cons, setAt, List.set_cons_succ, setAt_map f (rs := rs)]
/-! ### rows of pages -/
structure MR where
  A : Option Addr
  n : Nat
  c : Nat
  ps : List PG
def hdr (r : MR) : Value := .slice r.A r.n r.c
def cIn (t : Nat) (r : MR) : Chk := cOwn t 17 r.A r.n r.c (r.ps.flatMap pgV)
def noMR : MR := ⟨none, 0, 0, []⟩
theorem hdr_set {rs : List MR} {k : Nat} {r : MR} : (rs.map hdr).set k (hdr r) = (rs.set k r).map hdr := by simp [List.map_set]
theorem hdr_one (r : MR) : (hdr r).oneCell' = true := rfl
theorem cIn_nil (w : World) (t : Nat) : (cIn t noMR).p w [] := ⟨⟨rfl, Nat.le_refl _, Nat.zero_le _, .inl ⟨rfl, rfl⟩⟩, rfl⟩
theorem satL_nils (w : World) (t : Nat) : ∀ n, SatL w ((List.replicate n noMR).map (cIn t)) []
  | 0 => rfl
  | n + 1 => ⟨[], [], cIn_nil w t, satL_nils w t n, (fun _ h => by cases h), rfl⟩
theorem Sat.nils {O : List Nat} {w0 w : World} {L : List Chk} (H : Sat O w0 w L) (t n : Nat) : Sat O w0 w (cAll ((List.replicate n noMR).map (cIn t)) :: L) := by
  obtain ⟨ho, G, hL, hm⟩ := H
  exact ⟨ho, G, ⟨[], G, satL_nils w t n, hL, (fun _ h => by cases h), rfl⟩, hm⟩
theorem flat_len17 : ∀ {ps : List PG}, (∀ p ∈ ps, POk p) → (ps.flatMap pgV).length = ps.length * 17
  | [], _ => rfl
  | p :: ps, h => by
    rw [List.flatMap_cons, List.length_append, pgV_len (h p (List.mem_cons_self ..)).len, flat_len17 (fun q hq => h q (List.mem_cons_of_mem _ hq)), List.length_cons]
    omega
theorem Sat.inRd {O : List Nat} {w0 w : World} {L : List Chk} {q t k : Nat} {rs : List MR} {r : MR} (H : Sat O w0 w L) (hq : nth L q = some (cAll (rs.map (cIn t)))) (hr : rs[k]? = some r) : RdS w 17 r.A r.n r.c (r.ps.flatMap pgV) := by
  obtain ⟨F, h⟩ := H.allGet hq (nth_map (cIn t) hr)
  exact h.1.rd
theorem RdS.count17 {w : World} {A : Option Addr} {n c : Nat} {ps : List PG} (h : RdS w 17 A n c (ps.flatMap pgV)) (hok : ∀ p ∈ ps, POk p) : ps.length = n := by
  have h1 := h.len
  rw [flat_len17 hok] at h1
  omega
/-! ### pages that a place may have -/
def May (rs : List MR) : Nat → PG → Prop := fun k q => ∃ r, rs[k]? = some r ∧ q ∈ r.ps
theorem sWrite_15 {s : SS} (h : SInv s) {n id : Int} {p : PG} (hp : POk p) {m : Int} (he : (sWrite s n id p m).2 = 0 ∨ (sWrite s n id p m).2 = 9) : thereP s id = true ∧ ((sWrite s n id p m).2 = 0 → m = 15) := by
  by_cases hc : nodeP n = true ∧ thereP s id = true ∧ wholeP m = true
  · refine ⟨hc.2.1, fun e0 => ?_⟩
    by_cases hen : (encS id p).2 = 0
    · cases hb : busyS s n id
      · by_cases hl : p.lsn ≤ (stampS (plAt s id)).1
        · rw [sWrite_l hc hen hb hl] at e0; cases e0
        · rw [sWrite_yes hc hen hb hl] at e0
          by_cases h15 : m = 15
          · exact h15
          · rw [if_neg h15] at e0; cases e0
      · rw [sWrite_b hc hen hb] at e0; cases e0
    · rw [sWrite_e hc hen] at e0; exact absurd e0 hen
  · rw [sWrite_1 hc] at he
    rcases he with he | he <;> cases he
theorem SPV.may_no {s : SS} {rs : List MR} (h : SPV s (May rs)) {n id : Int} {p : PG} (hp : POk p) {m : Int} (h0 : (sWrite s n id p m).2 ≠ 0) (h9 : (sWrite s n id p m).2 ≠ 9) : SPV (sWrite s n id p m).1 (May rs) :=
  h.write hp (s' := (sWrite s n id p m).1) (e := (sWrite s n id p m).2) rfl (fun _ _ hq _ => hq) (fun _ _ _ he => by rcases he with he | he <;> contradiction)
theorem SPV.may_ok {s : SS} {rs : List MR} (h : SPV s (May rs)) {n : Int} {k : Nat} {p : PG} (hp : POk p) {m : Int} (hk : k < rs.length) (h0 : (sWrite s n (k : Int) p m).2 = 0) {r : MR} (hr : r.ps = [p]) : SPV (sWrite s n (k : Int) p m).1 (May (rs.set k r)) := by
  have h15 := (sWrite_15 h.inv hp (.inl h0)).2 h0
  refine h.write hp (s' := (sWrite s n (k : Int) p m).1) (e := (sWrite s n (k : Int) p m).2) rfl (fun j q hq h3 => ?_) (fun j q hj _ _ _ _ => ?_)
  · have hne : j ≠ k := fun e => by subst e; have := h3 rfl (.inl h0); omega
    obtain ⟨r', h1, h2⟩ := hq
    exact ⟨r', by rw [List.getElem?_set, if_neg (Ne.symm hne)]; exact h1, h2⟩
  · obtain rfl : j = k := by omega
    exact ⟨r, by rw [List.getElem?_set, if_pos rfl, if_pos hk], by rw [hr]; exact List.mem_cons_self ..⟩
theorem SPV.may_cut {s : SS} {rs : List MR} (h : SPV s (May rs)) {n : Int} {k : Nat} {p : PG} (hp : POk p) {m : Int} {r0 r : MR} (hk : rs[k]? = some r0) (hr : r.ps = r0.ps ++ [p]) : SPV (sWrite s n (k : Int) p m).1 (May (rs.set k r)) := by
  have hl := (List.getElem?_eq_some_iff.1 hk).1
  refine h.write hp (s' := (sWrite s n (k : Int) p m).1) (e := (sWrite s n (k : Int) p m).2) rfl (fun j q hq h3 => ?_) (fun j q hj _ _ _ _ => ?_)
  · obtain ⟨r', h1, h2⟩ := hq
    by_cases hne : j = k
    · subst hne
      rw [hk] at h1
      cases h1
      exact ⟨r, by rw [List.getElem?_set, if_pos rfl, if_pos hl], by rw [hr]; exact List.mem_append_left _ h2⟩
    · exact ⟨r', by rw [List.getElem?_set, if_neg (Ne.symm hne)]; exact h1, h2⟩
  · obtain rfl : j = k := by omega
    exact ⟨r, by rw [List.getElem?_set, if_pos rfl, if_pos hl], by rw [hr]; exact List.mem_append_right _ (List.mem_cons_self ..)⟩
def RowsOk (rs : List MR) : Prop := ∀ r ∈ rs, ∀ p ∈ r.ps, POk p
theorem RowsOk.set {rs : List MR} (h : RowsOk rs) {k : Nat} {r : MR} (hr : ∀ p ∈ r.ps, POk p) : RowsOk (rs.set k r) := fun r' h1 => by
  rcases List.mem_or_eq_of_mem_set h1 with h2 | h2
  · exact h r' h2
  · subst h2; exact hr
theorem RowsOk.nils (n : Nat) : RowsOk (List.replicate n noMR) := fun r h p hp => by rw [List.eq_of_mem_replicate h] at hp; cases hp
theorem SPV.may_new {pages : Int} {rs : List MR} (hl : rs.length = numPl pages) (h : ∀ (k : Nat) (r : MR), rs[k]? = some r → noPg ∈ r.ps) : SPV (sNew pages) (May rs) := by
  have hn := SPV.new pages
  refine ⟨hn.inv, fun k x hx => ?_⟩
  have hk : k < rs.length := by rw [hl, ← sNew_len]; exact (List.getElem?_eq_some_iff.1 hx).1
  have e : ∀ q, q = noPg → May rs k q := fun q hq => by subst hq; exact ⟨_, List.getElem?_eq_getElem hk, h k _ (List.getElem?_eq_getElem hk)⟩
  exact (hn.pl k x hx).imp (·.mono e) (·.mono e)
theorem OutIn.all (s : SS) : OutIn s (fun j => 0 ≤ j) := fun j _ _ _ => Nat.zero_le j
theorem OutIn.next {s : SS} {i : Nat} (h : OutIn s (fun j => i ≤ j)) (hi : SInv s) (h8 : i < 8) : (sMend s (i : Int) 3).2 = 0 ∧ sOut (sMend s (i : Int) 3).1 (i : Int) = false ∧ OutIn (sMend s (i : Int) 3).1 (fun j => i + 1 ≤ j) := by
  obtain ⟨h1, h2, h3⟩ := mend3 h hi h8
  exact ⟨h1, h2, h3.mono fun j hj => by omega⟩
theorem OutIn.none {s : SS} {i : Nat} (h : OutIn s (fun j => i ≤ j)) (hi : SInv s) (h8 : 8 ≤ i) : OutIn s (fun _ => False) := fun j a h1 h2 => by
  have := h j a h1 h2
  have h3 := (List.getElem?_eq_some_iff.1 h1).1
  have := hi.ok.ar
  omega
theorem made_hdr (n : Nat) : (madeCells #[Value.slice none 0 0] (n * 1)).toList = (List.replicate n noMR).map hdr := by
  apply List.ext_getElem?
  intro i
  simp only [madeCells, Array.toList_map, Array.toList_range, List.map_replicate, Nat.mul_one]
  simp [List.getElem?_replicate, List.getElem?_map, Nat.mod_one]
  by_cases h : i < n
  · rw [if_pos h, List.getElem?_range h]; rfl
  · rw [if_neg h, List.getElem?_eq_none (by simpa using h)]; rfl
theorem lit17 {O : List Nat} {w0 w : World} {L : List Chk} {t b : Nat} {p : PG} (hp : POk p) (H : Sat O w0 w (cBlk b t (pgV p ++ []) :: L)) : Sat O w0 w (cIn t ⟨some ⟨b, 0, none⟩, 1, 1, [p]⟩ :: L) := by
  have h1 : (pgV p ++ []).length = 17 := by rw [List.append_nil, pgV_len hp.len]
  have := H.toOwn (q := 0) (sz := 17) (nl := 1) (nc := 1) rfl (by rw [h1]) (Nat.le_refl _) (by decide)
  rw [List.take_of_length_le (by rw [h1]; exact Nat.le_refl _)] at this
  exact this
theorem Sat.swapIn {O : List Nat} {w0 w : World} {L : List Chk} {t k : Nat} {r : MR} {rs : List MR} (H : Sat O w0 w (cIn t r :: cAll (rs.map (cIn t)) :: L)) (hk : k < rs.length) : Sat O w0 w (cAll ((rs.set k r).map (cIn t)) :: L) := by
  have := H.allSwap (k := k) (by rw [List.length_map]; exact hk)
  rwa [setAt_map] at this
theorem Sat.takeIn {O : List Nat} {w0 w : World} {L : List Chk} {t k : Nat} {r : MR} {rs : List MR} (H : Sat O w0 w (cAll (rs.map (cIn t)) :: L)) (hk : rs[k]? = some r) : Sat O w0 w (cOwn t 17 r.A r.n r.c (r.ps.flatMap pgV) :: cAll (delAt (rs.map (cIn t)) k) :: L) := H.allTake (nth_map (cIn t) hk)
theorem Sat.putIn {O : List Nat} {w0 w : World} {L : List Chk} {t k : Nat} {r : MR} {rs : List MR} (H : Sat O w0 w (cIn t r :: cAll (delAt (rs.map (cIn t)) k) :: L)) (hk : k < rs.length) : Sat O w0 w (cAll ((rs.set k r).map (cIn t)) :: L) := by
  have := H.allPut (by rw [List.length_map]; exact hk)
  rwa [setAt_map] at this
theorem row_grow {r : MR} {A : Option Addr} {c : Nat} {p : PG} : (r.ps.flatMap pgV ++ (pgV p ++ [])) = (MR.mk A (r.n + 1) c (r.ps ++ [p])).ps.flatMap pgV := by simp
theorem ofNat_toNat {a : Int} (h : 0 ≤ a) : ((a.toNat : Nat) : Int) = a := Int.toNat_of_nonneg h
end Go.Q
namespace Go.Q
theorem rows_le_set {rs : List MR} {k b : Nat} {r : MR} (h : ∀ r ∈ rs, r.n ≤ b) (hr : r.n ≤ b) : ∀ r' ∈ rs.set k r, r'.n ≤ b := fun r' h1 => by
  rcases List.mem_or_eq_of_mem_set h1 with h2 | h2
  · exact h r' h2
  · subst h2; exact hr
theorem rows_no_set {rs : List MR} {i : Nat} {r : MR} (h : ∀ (j : Nat) (r : MR), rs[j]? = some r → j < i → noPg ∈ r.ps) (hr : noPg ∈ r.ps) : ∀ (j : Nat) (r' : MR), (rs.set i r)[j]? = some r' → j < i + 1 → noPg ∈ r'.ps := fun j r' h1 h2 => by
  rw [List.getElem?_set] at h1
  split at h1
  · split at h1
    · cases h1; exact hr
    · cases h1
  · exact h j r' h1 (by omega)
end Go.Q
namespace Go.Q
theorem take_next {α : Type} {ps : List α} {j : Nat} {x p : α} (hp : ps[j]? = some p) (h : x ∈ ps.take (j + 1)) : x ∈ ps.take j ∨ x = p := by
  rw [List.take_add_one, hp, Option.toList_some] at h
  rcases List.mem_append.1 h with h | h
  · exact .inl h
  · exact .inr (by simpa using h)
end Go.Q
namespace Go.Q
section
variable {P : Program} {ops : Array Oper} {n : Nat} {Q : Exit → Act → World → Prop} {S : World → Prop} {cl : Nat → Cl} {i : Nat} {l : List Nat} {f : Nat → Value} {w : World}
variable {x y : Operand} {t t1 t2 : TypeId} {pos : String} {aft : Array Edge} {g : Option (Nat × Bool)} {d : Tmp} {de dx : TypeDesc} {sz e by1 c m : Nat} {O : List Nat} {w0 : World} {L : List Chk} {A : Option Addr} {xs news : List Value} {zv v : Value}
theorem Cx.hno {F : List Nat} {wr : World} (hO : Only F wr w) (h : cl i = .P) : Cx cl i (fun x => Only F wr x) (fun _ x => Only F wr x) w :=
  .inr ⟨h, fun w' h' => ⟨hO.trans (Only.of_below _ h'), fun x hx => hx⟩⟩
theorem TF.appendP {q : Nat} {T1 T2 : TypeId} {m1 : Nat} (H : Sat O w0 w L) (hq : nth L q = some (cOwn e sz A m1 c xs)) (ho : ops[i]? = some ⟨some d, .call ⟨.builtin .append, #[x, y], #[T1, T2]⟩, t, pos, aft, g⟩) (hc : cl i = .P)
    (hg : wantF ops f ⟨some d, .call ⟨.builtin .append, #[x, y], #[T1, T2]⟩, t, pos, aft, g⟩ = true) (hS : P.underlying T1 = some (.slice e)) (he : Ty P e de zv sz by1) (hzc : zv.cells.size = sz) (hX : P.underlying T2 = some dx) (hdx : dx = .string ∨ ∃ e2, dx = .slice e2)
    (hx : op f x = .slice A m1 c) (hy : op f y = v) (hs : Src P w sz v m news) (h63 : m1 + m ≤ maxLen) (hb : (m1 + m) * by1 ≤ 140737488355328) (hSt : ∀ w', Only (ownF A) w w' → S w')
    (hk : ∀ A' c' w', Only (ownF A) w w' → Sat O w0 w' (setAt L q (cOwn e sz A' (m1 + m) c' (xs ++ news))) → TF P ops n Q S cl l (upd f d (.slice A' (m1 + m) c')) w') : TF P ops n Q S cl (i :: l) f w := by
  obtain ⟨A', c', w', hr, h1, h2, h3⟩ := run_append_own' (ty := t) hS he hzc hX hdx (H.own_ hq) hs h63 hb
  refine TF.p ho hc hg (v := .slice A' (m1 + m) c') (w' := w') ?_ (fun _ h => h) (hSt w' h2) (hk A' c' w' h2 (H.setOwn hq h2 h1 h3))
  simp only [execOp, resolve, invoke, builtin, Sem.run_bind, Sem.run_pure, Result.andThen_ok, List.map_toArray, List.map_cons, List.map_nil, hx, hy, hr]
end
theorem take_hit {ps : List PG} {j : Nat} {x p : PG} {b b' : Bool} (hb : x ∈ ps.take j → b = true) (hp : ps[j]? = some p) (h1 : b = true → b' = true) (h2 : x = p → b' = true) (h : x ∈ ps.take (j + 1)) : b' = true := by
  rcases take_next hp h with h | h
  · exact h1 (hb h)
  · exact h2 h
end Go.Q
