/- Which nodes' areas are out; a Write that is cut off (plain). Conditions: none. -/
import Derived.Test.YtpncaeadbfdflaaStoreW
set_option linter.unusedSimpArgs false
set_option linter.unusedVariables false
namespace Go.Q
def OutIn (s : SS) (A : Nat → Prop) : Prop := ∀ (j : Nat) (a : AR), s.ar[j]? = some a → a.out = true → A j
theorem OutIn.mono {s : SS} {A B : Nat → Prop} (h : OutIn s A) (hb : ∀ j, A j → B j) : OutIn s B := fun j a h1 h2 => hb j (h j a h1 h2)
theorem OutIn.new (pages : Int) (A : Nat → Prop) : OutIn (sNew pages) A := fun j a h1 h2 => by
  have := List.mem_of_getElem? h1
  simp only [sNew] at this
  rw [List.eq_of_mem_replicate this] at h2
  cases h2
theorem OutIn.set {s : SS} {A : Nat → Prop} (h : OutIn s A) {pl : List (List UInt8)} {j : Nat} {a b : AR} (hj : s.ar[j]? = some a) (hb : b.out = true → A j) : OutIn ⟨pl, s.ar.set j b⟩ A := fun i c h1 h2 => by
  simp only [set_get (List.getElem?_eq_some_iff.1 hj).1] at h1
  split at h1
  · rename_i e; cases h1; subst e; exact hb h2
  · exact h i c h1 h2
theorem OutIn.write {s : SS} {A : Nat → Prop} (h : OutIn s A) (hi : SInv s) (n id : Int) {p : PG} (hp : POk p) (m : Int) (hn : (sWrite s n id p m).2 = 9 → A n.toNat) : OutIn (sWrite s n id p m).1 A := by
  by_cases hc : nodeP n = true ∧ thereP s id = true ∧ wholeP m = true
  · by_cases he : (encS id p).2 = 0
    · cases hb : busyS s n id
      · by_cases hl : p.lsn ≤ (stampS (plAt s id)).1
        · rw [sWrite_l hc he hb hl]; exact h
        · obtain ⟨j, k, a, x, mk, rfl, rfl, rfl, ha, hx, hj, hk, hk32, hxl, hnt, hao, hr, hal, hm15, hm, hxe, hW⟩ := sWrite_shape hi hp hc he hb hl
          rw [hW] at hn ⊢
          by_cases h15 : (mk : Int) = 15
          · rw [if_pos h15]
            exact h.set ha (fun e => by rw [show a.out = true from e] at hao; cases hao)
          · rw [if_neg h15] at hn ⊢
            exact h.set ha (fun _ => hn rfl)
      · rw [sWrite_b hc he hb]; exact h
    · rw [sWrite_e hc he]; exact h
  · rw [sWrite_1 hc]; exact h
theorem OutIn.mend {s : SS} {A : Nat → Prop} (h : OutIn s A) (hi : SInv s) (n m : Int) : OutIn (sMend s n m).1 A := by
  by_cases hc : nodeP n = true ∧ 0 ≤ m ∧ m ≤ 3
  · obtain ⟨j, a, rfl, hj8, ha, haa, ham⟩ := hi.ok.ar_at hc.1
    by_cases hu : a.out = true ∧ tornS (plAt s a.id) = true
    · rw [sMend_y hc haa hu.1 rfl hu.2]
      split
      · exact h
      · exact h.set ha (fun e => by cases e)
    · rw [sMend_n hc haa hu]
      exact h.set ha (fun e => by cases e)
  · rw [sMend_1 hc]; exact h
/-- A node that is mended with both sectors has nothing out. -/
theorem mend3 {s : SS} {A : Nat → Prop} (h : OutIn s A) (hi : SInv s) {n : Nat} (hn : n < 8) : (sMend s (n : Int) 3).2 = 0 ∧ sOut (sMend s (n : Int) 3).1 (n : Int) = false ∧ OutIn (sMend s (n : Int) 3).1 (fun j => A j ∧ j ≠ n) := by
  have hnode : nodeP (n : Int) = true := nodeP_iff.2 (by omega)
  have hc : nodeP (n : Int) = true ∧ (0 : Int) ≤ 3 ∧ (3 : Int) ≤ 3 := ⟨hnode, by decide, by decide⟩
  obtain ⟨j, a, hj, hj8, ha, haa, ham⟩ := hi.ok.ar_at hc.1
  obtain rfl : n = j := by omega
  have hlt := (List.getElem?_eq_some_iff.1 ha).1
  have key : ∀ (pl : List (List UInt8)) (b : AR), b.out = false → sOut ⟨pl, s.ar.set n b⟩ (n : Int) = false ∧ OutIn ⟨pl, s.ar.set n b⟩ (fun j => A j ∧ j ≠ n) := by
    intro pl b hb
    refine ⟨?_, fun i c h1 h2 => ?_⟩
    · rw [sOut, arAt_eq (k := n) (a := b) (by simp only [set_get hlt, if_true]), hb, Bool.and_false]
    · simp only [set_get hlt] at h1
      split at h1
      · cases h1; rw [hb] at h2; cases h2
      · rename_i e; exact ⟨h i c h1 h2, e⟩
  by_cases hu : a.out = true ∧ tornS (plAt s a.id) = true
  · rw [sMend_y hc haa hu.1 rfl hu.2, if_neg (by decide)]
    exact ⟨rfl, key _ _ rfl⟩
  · rw [sMend_n hc haa hu]
    exact ⟨rfl, key _ _ rfl⟩
/-- Where nothing is out no place is torn. -/
theorem SPV.whole {s : SS} {M : Nat → PG → Prop} (h : SPV s M) (ho : OutIn s (fun _ => False)) {k : Nat} (hk : k < s.pl.length) : ∃ p, POk p ∧ rightP p = true ∧ M k p ∧ sRead s (k : Int) = (p, 0) := by
  have hx : s.pl[k]? = some (s.pl[k]'hk) := List.getElem?_eq_getElem hk
  rcases h.pl k _ hx with h1 | h1
  · obtain ⟨p, hp, hr, hM, e1⟩ := h1
    exact ⟨p, hp, hr, hM, sRead_page h.inv.ok.pl2 hx hp hr e1⟩
  · obtain ⟨_, i, a, _, _, h2, h3, _⟩ := h1
    exact (ho i a h2 h3).elim
/-! ### a Write cut off -/
structure CutI (s : SS) (n k : Nat) (w : PG) : Prop where
  pv : SPV s (fun k' q => k' = k → q = w)
  out : OutIn s (fun j => j = n)
  len : s.pl.length = 32
theorem CutI.mend {s : SS} {n k : Nat} {w : PG} (h : CutI s n k w) (a m : Int) : CutI (sMend s a m).1 n k w :=
  ⟨h.pv.mend a m, h.out.mend h.pv.inv a m, (sMend_plen _ _).trans h.len⟩
theorem CutI.last {s : SS} {n k : Nat} {w : PG} (h : CutI s n k w) (hn : n < 8) (hk : k < 32) : (sMend s (n : Int) 3).2 = 0 ∧ sOut (sMend s (n : Int) 3).1 (n : Int) = false ∧ sRead (sMend s (n : Int) 3).1 (k : Int) = (w, 0) := by
  obtain ⟨h1, h2, h3⟩ := mend3 h.out h.pv.inv hn
  refine ⟨h1, h2, ?_⟩
  obtain ⟨p, _, _, hM, hr⟩ := (h.pv.mend (n : Int) 3).whole (h3.mono fun j hj => hj.2 hj.1) (k := k) (by rw [sMend_plen, h.len]; exact hk)
  rw [hr, hM rfl]
def cutW (m : Int) (p : PG) : PG := if 3 < m then p else noPg
theorem cut_first {n k : Nat} {p : PG} {m : Int} (hn : n < 8) (hk : k < 32) (hp : POk p) (hr : rightP p = true) (hl : 0 < p.lsn) (hm : wholeP m = true) (h15 : m ≠ 15) :
    ∃ s, sWrite (sNew 32) (n : Int) (k : Int) p m = (s, 9) ∧ sOut s (n : Int) = true ∧ CutI s n k (cutW m p) ∧ (∃ img, s.ar[n]? = some ⟨img, true, (k : Int)⟩) ∧ ∀ j, j ≠ k → j < 32 → s.pl[j]? = some (imageS j noPg) := by
  have hnp : numPl 32 = 32 := rfl
  have hnum : numberP (k : Int) = true := numberP_iff.2 (by omega)
  have hen := encS_yes hnum hr
  have hx : (sNew 32).pl[k]? = some (imageS k noPg) := sNew_at (by rw [hnp]; exact hk)
  have hc : nodeP (n : Int) = true ∧ thereP (sNew 32) (k : Int) = true ∧ wholeP m = true := ⟨nodeP_iff.2 (by omega), thereP_iff.2 (by rw [sNew_len, hnp]; omega), hm⟩
  have hb := sNew_busy 32 (n : Int) (k : Int)
  have hl2 : ¬ p.lsn ≤ (stampS (plAt (sNew 32) (k : Int))).1 := by rw [plAt_eq hx, stamp_image noPg_ok noPg_right]; simp [noPg]; omega
  obtain ⟨j, k', a, x, mk, e1, e2, rfl, ha, hx', hj, hk', _, _, _, _, _, _, hm15, hm', hxe, hW⟩ := sWrite_shape (sNew_inv 32) hp hc (by rw [hen]) hb hl2
  obtain rfl : n = j := by omega
  obtain rfl : k = k' := by omega
  rw [if_neg (by omega)] at hW
  refine ⟨_, hW, ?_, ⟨?_, ?_, ?_⟩, ⟨layB a.img (imageS k p) mk, ?_⟩, fun i hi hi2 => ?_⟩
  · rw [sOut, arAt_eq (k := n) (a := ⟨layB a.img (imageS k p) mk, true, (k : Int)⟩) (by simp only [set_get hj, if_true]), nodeP_iff.2 (by omega)]; rfl
  · have := (SPV.new 32).write hp (M' := fun k' q => k' = k → q = cutW (mk : Int) p) hW (fun i q hq h3 e => by
      subst e; rw [cutW, if_neg (by have := h3 rfl (.inr rfl); omega)]; exact hq) (fun i q e1 _ h3 _ _ e => by rw [cutW, if_pos (by omega)])
    exact this
  · have := (OutIn.new 32 (fun j => j = n)).write (sNew_inv 32) (n : Int) (k : Int) hp (mk : Int) (fun _ => by simp)
    rw [hW] at this
    exact this
  · simp [sNew_len, hnp]
  · simp only [set_get hj, if_true]
  · simp only [set_get hk', if_neg hi]
    exact sNew_at (by rw [hnp]; exact hi2)
theorem busy13 {s : SS} {n id : Int} {p : PG} (hn : nodeP n = true) (ht : thereP s id = true) (he : (encS id p).2 = 0) (hb : busyS s n id = true) : sWrite s n id p 15 = (s, 13) := sWrite_b ⟨hn, ht, by decide⟩ he hb
theorem right_lsn {p : PG} {l : Nat} (hr : rightP p = true) (hl : l ≤ 4611686018427387904) : rightP ⟨l, p.cells⟩ = true := by
  simp only [rightP, Bool.and_eq_true, decide_eq_true_eq] at hr ⊢
  exact ⟨hr.1, hl⟩
/-- The two Writes that meet what is out. -/
theorem cut_busy {s : SS} {n k : Nat} {w p : PG} {img : List UInt8} (h : CutI s n k w) (ha : s.ar[n]? = some ⟨img, true, (k : Int)⟩) (hk : k < 32) (hn : n < 8) (hr : rightP p = true) {o j : Nat} (ho : o < 8) (hj : j < 32) :
    sWrite s (n : Int) (j : Int) ⟨4611686018427387904, p.cells⟩ 15 = (s, 13) ∧ sWrite s (o : Int) (k : Int) ⟨4611686018427387904, p.cells⟩ 15 = (s, 13) := by
  have hr2 := right_lsn (l := 4611686018427387904) hr (Nat.le_refl _)
  have hl := h.len
  constructor
  · exact busy13 (nodeP_iff.2 (by omega)) (thereP_iff.2 (by omega)) (by rw [encS_yes (numberP_iff.2 (by omega)) hr2]) (busyS_iff.2 ⟨n, _, ha, rfl, .inl rfl⟩)
  · exact busy13 (nodeP_iff.2 (by omega)) (thereP_iff.2 (by omega)) (by rw [encS_yes (numberP_iff.2 (by omega)) hr2]) (busyS_iff.2 ⟨n, _, ha, rfl, .inr rfl⟩)
/-- Another node's Write to another place. -/
theorem cut_other {s : SS} {n k : Nat} {w : PG} (h : CutI s n k w) {o j : Nat} (ho : o < 8) (hj : j < 32) (hon : o ≠ n) (hjk : j ≠ k) (ha : ∃ img, s.ar[n]? = some ⟨img, true, (k : Int)⟩) (hx : s.pl[j]? = some (imageS j noPg)) {q : PG} (hq : POk q) :
    ∃ s' e, sWrite s (o : Int) (j : Int) q 15 = (s', e) ∧ CutI s' n k w ∧ (if rightP q = true ∧ 0 < q.lsn then e = 0 ∧ sRead s' (j : Int) = (q, 0) else e ≠ 0 ∧ sRead s' (j : Int) = (noPg, 0)) := by
  obtain ⟨img, ha⟩ := ha
  have hl := h.len
  have h32 := h.pv.inv.ok.pl2
  have hnum : numberP (j : Int) = true := numberP_iff.2 (by omega)
  have hc : nodeP (o : Int) = true ∧ thereP s (j : Int) = true ∧ wholeP 15 = true := ⟨nodeP_iff.2 (by omega), thereP_iff.2 (by omega), by decide⟩
  have hb : busyS s (o : Int) (j : Int) = false := by
    cases hb : busyS s (o : Int) (j : Int)
    · rfl
    · obtain ⟨i, a, h1, h2, h3⟩ := busyS_iff.1 hb
      have := h.out i a h1 h2
      subst this
      rw [ha] at h1
      cases h1
      rcases h3 with h3 | h3 <;> first | omega | (simp only at h3; omega)
  have hno : sRead s (j : Int) = (noPg, 0) := sRead_page h32 hx noPg_ok noPg_right rfl
  have hst : (stampS (plAt s (j : Int))).1 = 0 := by rw [plAt_eq hx, stamp_image noPg_ok noPg_right]; rfl
  by_cases hr : rightP q = true
  · have hen := encS_yes hnum hr
    by_cases h0 : 0 < q.lsn
    · have hW := sWrite_yes hc (by rw [hen]) hb (by rw [hst]; omega)
      rw [if_pos rfl] at hW
      refine ⟨_, _, hW, ?_, ?_⟩
      · refine ⟨?_, ?_, by simp [hl]⟩
        · exact h.pv.write hq hW (fun i q' h1 _ => h1) (fun i q' e1 _ _ _ _ e2 => by omega)
        · have := h.out.write h.pv.inv (o : Int) (j : Int) hq 15 (fun e => by rw [hW] at e; cases e)
          rw [hW] at this
          exact this
      · rw [if_pos ⟨hr, h0⟩]
        refine ⟨rfl, sRead_page (by simp [hl]) (x := imageS j q) ?_ hq hr rfl⟩
        simp only [set_get (show (Int.toNat (j : Int)) < s.pl.length by omega), Int.toNat_natCast, if_true, hen]
        rw [layB_3 (by decide), set_get (by omega), if_pos rfl]
    · refine ⟨s, 13, sWrite_l hc (by rw [hen]) hb (by omega), h, ?_⟩
      rw [if_neg (fun e => h0 e.2)]
      exact ⟨by decide, hno⟩
  · have hre : (encS (j : Int) q).2 ≠ 0 := fun e => hr (encS_ok e).2.1
    refine ⟨s, _, sWrite_e hc hre, h, ?_⟩
    rw [if_neg (fun e => hr e.1)]
    exact ⟨hre, hno⟩
theorem cut_other' {s : SS} {n k : Nat} {w : PG} (h : CutI s n k w) {o j : Nat} (ho : o < 8) (hj : j < 32) (hon : o ≠ n) (hjk : j ≠ k) (ha : ∃ img, s.ar[n]? = some ⟨img, true, (k : Int)⟩) (hx : s.pl[j]? = some (imageS j noPg)) {q : PG} (hq : POk q) :
    ∃ s' e, sWrite s (o : Int) (j : Int) q 15 = (s', e) ∧ CutI s' n k w ∧ decide (e = 0) = (rightP q && decide ((0 : Int) < (q.lsn : Int))) ∧ (sRead s' (j : Int)).2 = 0 ∧ (rightP q = true → (0 : Int) < (q.lsn : Int) → (sRead s' (j : Int)).1 = q) ∧ (¬ (rightP q = true ∧ (0 : Int) < (q.lsn : Int)) → (sRead s' (j : Int)).1 = noPg) := by
  obtain ⟨s', e, h1, h2, h3⟩ := cut_other h ho hj hon hjk ha hx hq
  refine ⟨s', e, h1, h2, ?_⟩
  by_cases hr : rightP q = true ∧ 0 < q.lsn
  · rw [if_pos hr] at h3
    have h0 : (0 : Int) < (q.lsn : Int) := by omega
    refine ⟨by simp [h3.1, hr.1, hr.2], by rw [h3.2], fun _ _ => by rw [h3.2], fun e => absurd ⟨hr.1, h0⟩ e⟩
  · rw [if_neg hr] at h3
    have h0 : ¬ (rightP q = true ∧ (0 : Int) < (q.lsn : Int)) := fun e => hr ⟨e.1, by omega⟩
    refine ⟨?_, by rw [h3.2], fun e1 e2 => absurd ⟨e1, e2⟩ h0, fun _ => by rw [h3.2]⟩
    rw [decide_eq_false h3.1]
    cases hb : rightP q
    · rfl
    · rw [Bool.true_and, eq_comm, decide_eq_false_iff_not]
      exact fun e => h0 ⟨hb, e⟩
end Go.Q
