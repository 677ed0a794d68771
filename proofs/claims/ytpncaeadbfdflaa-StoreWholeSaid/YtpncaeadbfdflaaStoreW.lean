/- What each place of a store holds: a right page's image as a whole, or two of them in parts, of which the newer one is out (plain). Conditions: none. -/
import Derived.Test.YtpncaeadbfdflaaStoreL
set_option linter.unusedSimpArgs false
set_option linter.unusedVariables false
namespace Go.Q
def RP (k : Nat) (M : PG → Prop) (x : List UInt8) : Prop := ∃ p, POk p ∧ rightP p = true ∧ M p ∧ x = imageS k p
def Mix (P Q x : List UInt8) : Prop := x = P.take 128 ++ Q.drop 128 ∨ x = Q.take 128 ++ P.drop 128
def PT (s : SS) (k : Nat) (M : PG → Prop) (x : List UInt8) : Prop :=
  tornS x = true ∧ ∃ (i : Nat) (a : AR) (p q : PG), s.ar[i]? = some a ∧ a.out = true ∧ a.id = (k : Int) ∧ POk p ∧ POk q ∧ rightP p = true ∧ rightP q = true ∧ M q ∧ p.lsn < q.lsn ∧ a.img = imageS k q ∧ Mix (imageS k p) (imageS k q) x
structure SPV (s : SS) (M : Nat → PG → Prop) : Prop where
  inv : SInv s
  pl : ∀ (k : Nat) (x : List UInt8), s.pl[k]? = some x → RP k (M k) x ∨ PT s k (M k) x
theorem RP.mono {k : Nat} {M M' : PG → Prop} {x : List UInt8} (h : RP k M x) (hm : ∀ p, M p → M' p) : RP k M' x := by
  obtain ⟨p, h1, h2, h3, h4⟩ := h
  exact ⟨p, h1, h2, hm p h3, h4⟩
theorem PT.mono {s : SS} {k : Nat} {M M' : PG → Prop} {x : List UInt8} (h : PT s k M x) (hm : ∀ p, M p → M' p) : PT s k M' x := by
  obtain ⟨h0, i, a, p, q, h1, h2, h3, h4, h5, h6, h7, h8, h9⟩ := h
  exact ⟨h0, i, a, p, q, h1, h2, h3, h4, h5, h6, h7, hm q h8, h9⟩
theorem PT.move {s s' : SS} {k : Nat} {M : PG → Prop} {x : List UInt8} (h : PT s k M x) (ha : ∀ (i : Nat) (a : AR), s.ar[i]? = some a → a.out = true → a.id = (k : Int) → s'.ar[i]? = some a) : PT s' k M x := by
  obtain ⟨h0, i, a, p, q, h1, h2, h3, h4⟩ := h
  exact ⟨h0, i, a, p, q, ha i a h1 h2 h3, h2, h3, h4⟩
theorem SPV.mono {s : SS} {M M' : Nat → PG → Prop} (h : SPV s M) (hm : ∀ k p, M k p → M' k p) : SPV s M' :=
  ⟨h.inv, fun k x hx => (h.pl k x hx).imp (·.mono (hm k)) (·.mono (hm k))⟩
theorem RP.not_torn {k : Nat} {M : PG → Prop} {x : List UInt8} (h : RP k M x) : tornS x = false := by
  obtain ⟨p, h1, h2, _, rfl⟩ := h
  exact img_whole h1 h2
theorem mix_mend {P Q x : List UInt8} {m : Nat} (hP : P.length = 256) (hQ : Q.length = 256) (h : Mix P Q x) (hm : m ≤ 3) : layB x Q m = x ∨ layB x Q m = Q := by
  have hp : (P.take 128).length = 128 := by rw [List.length_take]; omega
  have hq : (Q.take 128).length = 128 := by rw [List.length_take]; omega
  have : m = 0 ∨ m = 1 ∨ m = 2 ∨ m = 3 := by omega
  rcases this with rfl | rfl | rfl | rfl
  · exact .inl (layB_0 rfl)
  · rcases h with rfl | rfl
    · right; unfold layB; rw [if_pos (by decide), if_neg (by decide), List.drop_left' hp, List.take_append_drop]
    · left; unfold layB; rw [if_pos (by decide), if_neg (by decide), List.drop_left' hq]
  · rcases h with rfl | rfl
    · left; unfold layB; rw [if_neg (by decide), if_pos (by decide), List.take_left' hp]
    · right; unfold layB; rw [if_neg (by decide), if_pos (by decide), List.take_left' hq, List.take_append_drop]
  · exact .inr (layB_3 rfl)
theorem lay_mix {P Q : List UInt8} {m : Nat} (hm : m ≤ 2) (hm0 : 1 ≤ m) : Mix P Q (layB P Q m) := by
  have : m = 1 ∨ m = 2 := by omega
  rcases this with rfl | rfl
  · right; unfold layB; rw [if_pos (by decide), if_neg (by decide)]
  · left; unfold layB; rw [if_neg (by decide), if_pos (by decide)]
theorem mix_torn {k : Nat} {p q : PG} {x : List UInt8} (hp : POk p) (hq : POk q) (rp : rightP p = true) (rq : rightP q = true) (hl : p.lsn < q.lsn) (h : Mix (imageS k p) (imageS k q) x) : tornS x = true := by
  rcases h with rfl | rfl
  · exact (mixed_torn hp hq rp rq (by omega)).2
  · exact (mixed_torn hq hp rq rp (by omega)).2
/-- A Write: its page comes in where a sector of the place was written. -/
theorem SPV.write {s : SS} {M M' : Nat → PG → Prop} (h : SPV s M) {n id : Int} {p : PG} (hp : POk p) {m : Int} {s' : SS} {e : Int} (hs : sWrite s n id p m = (s', e))
    (hsub : ∀ (k : Nat) q, M k q → ((k : Int) = id → (e = 0 ∨ e = 9) → m ≤ 3) → M' k q)
    (hnew : ∀ (k : Nat) q, (k : Int) = id → (e = 0 ∨ e = 9) → 3 < m → M k q → q.lsn < p.lsn → M' k p) : SPV s' M' := by
  have hinv := sWrite_inv h.inv (n := n) (id := id) hp m
  rw [hs] at hinv
  have hno : s' = s → (e ≠ 0 ∧ e ≠ 9) → SPV s' M' := fun e1 e2 => by
    subst e1
    exact h.mono fun k q hq => hsub k q hq (fun _ h3 => by rcases h3 with h3 | h3 <;> simp_all)
  by_cases hc : nodeP n = true ∧ thereP s id = true ∧ wholeP m = true
  · by_cases he : (encS id p).2 = 0
    · cases hb : busyS s n id
      · by_cases hl : p.lsn ≤ (stampS (plAt s id)).1
        · rw [sWrite_l hc he hb hl] at hs
          cases hs
          exact hno rfl ⟨by decide, by decide⟩
        · obtain ⟨j, k, a, x, mk, rfl, rfl, rfl, ha, hx, hj, hk, hk32, hxl, hnt, hao, hr, hal, hm15, hm, hxe, hW⟩ := sWrite_shape h.inv hp hc he hb hl
          obtain ⟨p0, hp0, hr0, hM0, rfl⟩ : RP k (M k) x := by
            rcases h.pl k x hx with h1 | h1
            · exact h1
            · have h2 := h1.1; rw [hnt] at h2; cases h2
          have hlt : p0.lsn < p.lsn := by
            rw [hxe, stamp_image hp0 hr0] at hl
            simp only at hl
            omega
          have lp := (image_mid (id := k) hp.len hr).2.2.2.2
          have l0 := (image_mid (id := k) hp0.len hr0).2.2.2.2
          rw [hs] at hW
          have hout : ∀ (i : Nat) (b : AR), s.ar[i]? = some b → b.out = true → i ≠ j := fun i b hb1 hb2 e1 => by subst e1; rw [ha] at hb1; cases hb1; rw [hao] at hb2; cases hb2
          have hoth : ∀ (k' : Nat) (y : List UInt8) (c : AR), k' ≠ k → s.pl[k']? = some y → ∀ pl', RP k' (M' k') y ∨ PT ⟨pl', s.ar.set j c⟩ k' (M' k') y := fun k' y c hne hy pl' => by
            have hm' : ∀ q, M k' q → M' k' q := fun q hq => hsub k' q hq (fun e1 => absurd (by exact_mod_cast e1) hne)
            rcases h.pl k' y hy with h1 | h1
            · exact .inl (h1.mono hm')
            · refine .inr ((h1.mono hm').move fun i b h2 h3 h4 => ?_)
              simp only [set_get hj]
              rw [if_neg (hout i b h2 h3)]
              exact h2
          by_cases h15 : (mk : Int) = 15
          · rw [if_pos h15] at hW
            cases hW
            refine ⟨hinv, fun k' y hy => ?_⟩
            simp only [set_get hk] at hy
            split at hy
            · rename_i e1
              cases hy
              subst e1
              rw [layB_3 (by omega)]
              exact .inl ⟨p, hp, hr, hnew k' p0 rfl (.inl rfl) (by omega) hM0 hlt, rfl⟩
            · rename_i e1
              exact hoth k' y _ (by omega) hy _
          · rw [if_neg h15] at hW
            cases hW
            refine ⟨hinv, fun k' y hy => ?_⟩
            simp only [set_get hk] at hy
            split at hy
            · rename_i e1
              cases hy
              subst e1
              by_cases hm4 : mk / 4 = 0
              · rw [layB_0 (by omega)]
                exact .inl ⟨p0, hp0, hr0, hsub k' p0 hM0 (fun _ _ => by omega), rfl⟩
              · have hmx := lay_mix (P := imageS k' p0) (Q := imageS k' p) (m := mk / 4) (by omega) (by omega)
                have hm3 : mk % 4 = 3 := by rcases hm with hm | hm <;> omega
                refine .inr ⟨mix_torn hp0 hp hr0 hr hlt hmx, j, ⟨layB a.img (imageS k' p) mk, true, (k' : Int)⟩, p0, p, by simp only [set_get hj, if_true], rfl, rfl, hp0, hp, hr0, hr, hnew k' p0 rfl (.inr rfl) (by omega) hM0 hlt, hlt, layB_3 hm3, hmx⟩
            · rename_i e1
              exact hoth k' y _ (by omega) hy _
      · rw [sWrite_b hc he hb] at hs
        cases hs
        exact hno rfl ⟨by decide, by decide⟩
    · rw [sWrite_e hc he] at hs
      cases hs
      refine hno rfl ⟨he, fun e1 => ?_⟩
      have := encS_err (id := id) (p := p) he
      rw [this.1] at e1
      cases e1
  · rw [sWrite_1 hc] at hs
    cases hs
    exact hno rfl ⟨by decide, by decide⟩
theorem SPV.mend {s : SS} {M : Nat → PG → Prop} (h : SPV s M) (n m : Int) : SPV (sMend s n m).1 M := by
  have hinv := sMend_inv h.inv n m
  refine ⟨hinv, ?_⟩
  by_cases hc : nodeP n = true ∧ 0 ≤ m ∧ m ≤ 3
  · obtain ⟨j, a, rfl, hj8, ha, haa, ham⟩ := h.inv.ok.ar_at hc.1
    have hj : j < s.ar.length := by rw [h.inv.ok.ar]; exact hj8
    obtain ⟨mk, rfl⟩ := Int.eq_ofNat_of_zero_le hc.2.1
    by_cases hu : a.out = true ∧ tornS (plAt s a.id) = true
    · obtain ⟨x, hx, hxl, hxe, h0, h1, hk⟩ := h.inv.ok.pl_id ham hu.1
      have htx : tornS x = true := by rw [← hxe]; exact hu.2
      obtain ⟨k, hke⟩ := Int.eq_ofNat_of_zero_le h0
      have hkn : a.id.toNat = k := by omega
      rw [hkn] at hx hk
      obtain ⟨i, b, p, q, b1, b2, b3, hp, hq, rp, rq, hM, hlt, bi, hmx⟩ : ∃ (i : Nat) (b : AR) (p q : PG), s.ar[i]? = some b ∧ b.out = true ∧ b.id = (k : Int) ∧ POk p ∧ POk q ∧ rightP p = true ∧ rightP q = true ∧ M k q ∧ p.lsn < q.lsn ∧ b.img = imageS k q ∧ Mix (imageS k p) (imageS k q) x := by
        rcases h.pl k x hx with h2 | h2
        · rw [h2.not_torn] at htx; cases htx
        · exact h2.2
      have hij : i = j := h.inv.dist i j b a b1 ha b2 hu.1 (by rw [b3, hke])
      subst hij
      rw [ha] at b1
      cases b1
      have lp := (image_mid (id := k) hp.len rp).2.2.2.2
      have lq := (image_mid (id := k) hq.len rq).2.2.2.2
      have hmend := mix_mend lp lq hmx (m := mk) (by omega)
      have hM2 := sMend_y hc haa hu.1 hxe htx
      rw [hM2, hkn, bi]
      simp only [Int.toNat_natCast]
      by_cases h3 : (mk : Int) = 3
      · rw [if_neg (by simpa using h3), layB_3 (by omega)]
        intro k' y hy
        simp only [set_get hk] at hy
        split at hy
        · rename_i e1
          cases hy; subst e1
          exact .inl ⟨q, hq, rq, hM, rfl⟩
        · rename_i e1
          rcases h.pl k' y hy with h2 | h2
          · exact .inl h2
          · refine .inr (h2.move fun i' b h4 h5 h6 => ?_)
            simp only [set_get hj]
            rw [if_neg (fun e => by subst e; rw [ha] at h4; cases h4; omega)]
            exact h4
      · rw [if_pos (by simpa using h3)]
        intro k' y hy
        simp only [set_get hk] at hy
        split at hy
        · rename_i e1
          cases hy; subst e1
          rcases hmend with e2 | e2
          · rw [e2]
            exact (h.pl k' x hx).imp id (·.move fun i' b h4 _ _ => h4)
          · rw [e2]; exact .inl ⟨q, hq, rq, hM, rfl⟩
        · exact (h.pl k' y hy).imp id (·.move fun i' b h4 _ _ => h4)
    · have hM2 := sMend_n hc haa hu
      rw [hM2]
      simp only [Int.toNat_natCast]
      intro k' y hy
      rcases h.pl k' y hy with h2 | h2
      · exact .inl h2
      · refine .inr (h2.move fun i' b h4 h5 h6 => ?_)
        simp only [set_get hj]
        rw [if_neg (fun e => by
          subst e; rw [ha] at h4; cases h4
          exact hu ⟨h5, by rw [h6, plAt_eq (s := s) hy]; exact h2.1⟩)]
        exact h4
  · rw [sMend_1 hc]; exact h.pl
theorem SPV.new (pages : Int) : SPV (sNew pages) (fun _ q => q = noPg) := by
  refine ⟨sNew_inv pages, fun k x hx => ?_⟩
  have hk : k < numPl pages := by rw [← sNew_len]; exact (List.getElem?_eq_some_iff.1 hx).1
  rw [sNew_at hk] at hx
  cases hx
  exact .inl ⟨noPg, noPg_ok, noPg_right, rfl, rfl⟩
/-- What a Read tells. -/
theorem SPV.read {s : SS} {M : Nat → PG → Prop} (h : SPV s M) {k : Nat} (hk : k < s.pl.length) :
    (∃ p, POk p ∧ rightP p = true ∧ M k p ∧ sRead s (k : Int) = (p, 0)) ∨ ((sRead s (k : Int)).2 = 14 ∧ tornS (plAt s (k : Int)) = true) := by
  have hx : s.pl[k]? = some (s.pl[k]'hk) := List.getElem?_eq_getElem hk
  have h32 := h.inv.ok.pl2
  have hnum : numberP (k : Int) = true := numberP_iff.2 (by omega)
  rw [sRead, if_pos (thereP_iff.2 (by omega)), plAt_eq hx]
  rcases h.pl k _ hx with h1 | h1
  · obtain ⟨p, hp, hr, hM, e1⟩ := h1
    left
    refine ⟨p, hp, hr, hM, ?_⟩
    rw [e1]
    have := dec_enc hnum hp.len hr
    simpa using this
  · right
    exact ⟨dec_torn hnum (h.inv.ok.plen _ (List.mem_of_getElem? hx)) h1.1, h1.1⟩
theorem sWrite_plen {s : SS} (n id : Int) (p : PG) (m : Int) : (sWrite s n id p m).1.pl.length = s.pl.length := by
  unfold sWrite
  split
  · rfl
  · split
    · rfl
    · split
      · rfl
      · split
        · rfl
        · simp only
          split <;> simp only [List.length_set]
theorem sMend_plen {s : SS} (n m : Int) : (sMend s n m).1.pl.length = s.pl.length := by
  unfold sMend
  split
  · rfl
  · simp only
    split
    · split <;> simp only [List.length_set]
    · rfl
theorem sRead_page {s : SS} {k : Nat} {x : List UInt8} {p : PG} (h32 : s.pl.length ≤ 32) (hx : s.pl[k]? = some x) (hp : POk p) (hr : rightP p = true) (e : x = imageS k p) : sRead s (k : Int) = (p, 0) := by
  have hk := (List.getElem?_eq_some_iff.1 hx).1
  rw [sRead, if_pos (thereP_iff.2 (by omega)), plAt_eq hx, e]
  have := dec_enc (id := (k : Int)) (numberP_iff.2 (by omega)) hp.len hr
  simpa using this
/-! ### stamps that rise -/
def lastV (ls : List Nat) : List Value := ls.map fun n : Nat => Value.int .u64 (n : Int)
def Up (ls : List Nat) : Nat → PG → Prop := fun k p => ls.getD k 0 ≤ p.lsn
theorem lastV_at {ls : List Nat} {j : Nat} (h : j < ls.length) : (lastV ls)[0 + (j : Int).toNat * 1]? = some (.int .u64 ((ls.getD j 0 : Nat) : Int)) := by
  simp [lastV, List.getElem?_eq_getElem h, List.getD_eq_getElem?_getD]
theorem lastV_set {ls : List Nat} {j v : Nat} : (lastV ls).set (0 + (j : Int).toNat * 1) (.int .u64 (v : Int)) = lastV (ls.set j v) := by
  simp [lastV, List.map_set]
theorem lastV_blt {ls : List Nat} {j : Nat} (h : j < ls.length) : Nat.blt (0 + (j : Int).toNat * 1) (lastV ls).length = true := by
  rw [Nat.blt_eq]
  simpa [lastV] using h
theorem SPV.up_new : SPV (sNew 4) (Up [0, 0, 0, 0]) := (SPV.new 4).mono fun k p _ => by
  have : [0, 0, 0, 0].getD k 0 = 0 := by
    rcases k with _ | _ | _ | _ | k <;> rfl
  unfold Up; omega
theorem SPV.up_write {s : SS} {ls : List Nat} (h : SPV s (Up ls)) (n id : Int) {p : PG} (hp : POk p) (m : Int) : SPV (sWrite s n id p m).1 (Up ls) :=
  h.write hp (s' := (sWrite s n id p m).1) (e := (sWrite s n id p m).2) rfl (fun _ _ hq _ => hq) (fun k q _ _ _ h1 h2 => by unfold Up at h1 ⊢; omega)
theorem SPV.seen {s : SS} {ls : List Nat} (h : SPV s (Up ls)) {j : Nat} (hj : j < s.pl.length) (hq : (sRead s (j : Int)).2 = 0) : SPV s (Up (ls.set j (sRead s (j : Int)).1.lsn)) := by
  refine ⟨h.inv, fun k x hx => ?_⟩
  have h32 := h.inv.ok.pl2
  by_cases hkj : k = j
  · subst hkj
    rcases h.pl k x hx with h1 | h1
    · obtain ⟨p, hp, hr, _, e1⟩ := h1
      refine .inl ⟨p, hp, hr, ?_, e1⟩
      rw [sRead_page h32 hx hp hr e1]
      unfold Up
      simp only [List.getD_eq_getElem?_getD, List.getElem?_set]
      simp
      split <;> simp
    · have := dec_torn (id := (k : Int)) (numberP_iff.2 (by omega)) (h.inv.ok.plen _ (List.mem_of_getElem? hx)) h1.1
      rw [sRead, if_pos (thereP_iff.2 (by omega)), plAt_eq hx, this] at hq
      cases hq
  · have e : ∀ p, Up ls k p → Up (ls.set j (sRead s (j : Int)).1.lsn) k p := fun p hp => by
      unfold Up at hp ⊢
      simp only [List.getD_eq_getElem?_getD, List.getElem?_set, if_neg (Ne.symm hkj)] at hp ⊢
      exact hp
    exact (h.pl k x hx).imp (·.mono e) (·.mono e)
def noOp : OP := ⟨0, 0, 0, 0, noPg⟩
theorem noOp_ok : OpOk noOp := ⟨by decide, by decide, by decide, by decide, by decide, by decide, by decide, by decide, noPg_ok⟩
end Go.Q
