/- The store and the document's answer alike, step by step (plain). Conditions: none. -/
import Derived.Test.YtpncaeadbfdflaaStoreR
set_option linter.unusedSimpArgs false
set_option linter.unusedVariables false
namespace Go.Q
theorem set_get {α : Type} {l : List α} {j i : Nat} {a : α} (hj : j < l.length) : (l.set j a)[i]? = if i = j then some a else l[i]? := by
  rw [List.getElem?_set]
  by_cases h : j = i
  · subst h; simp [hj]
  · rw [if_neg h, if_neg (fun e => h e.symm)]
theorem busyA_iff {n id : Int} : ∀ {l : List AR} {k : Nat}, busyA n id k l = true ↔ ∃ i a, l[i]? = some a ∧ a.out = true ∧ (((k + i : Nat) : Int) = n ∨ a.id = id)
  | [], k => by simp [busyA]
  | a :: l, k => by
    simp only [busyA, Bool.or_eq_true, Bool.and_eq_true, decide_eq_true_eq, busyA_iff (l := l) (k := k + 1)]
    constructor
    · rintro (⟨h1, h2⟩ | ⟨i, b, h1, h2, h3⟩)
      · exact ⟨0, a, rfl, h1, by simpa using h2⟩
      · exact ⟨i + 1, b, by simpa using h1, h2, by rwa [show k + (i + 1) = k + 1 + i by omega]⟩
    · rintro ⟨i, b, h1, h2, h3⟩
      cases i with
      | zero =>
        simp at h1
        subst h1
        exact .inl ⟨h2, by simpa using h3⟩
      | succ i => exact .inr ⟨i, b, by simpa using h1, h2, by rwa [show k + 1 + i = k + (i + 1) by omega]⟩
theorem busyS_iff {s : SS} {n id : Int} : busyS s n id = true ↔ ∃ (i : Nat) (a : AR), s.ar[i]? = some a ∧ a.out = true ∧ ((i : Int) = n ∨ a.id = id) := by
  rw [busyS, busyA_iff]
  simp only [Nat.zero_add]
theorem busyS_not {s : SS} {n id : Int} (h : busyS s n id = false) {i : Nat} {a : AR} (ha : s.ar[i]? = some a) (hu : a.out = true) : (i : Int) ≠ n ∧ a.id ≠ id := by
  constructor
  · intro e
    rw [busyS_iff.2 ⟨i, a, ha, hu, .inl e⟩] at h
    cases h
  · intro e
    rw [busyS_iff.2 ⟨i, a, ha, hu, .inr e⟩] at h
    cases h
structure SInv (s : SS) : Prop where
  ok : SOk s
  dist : ∀ (i j : Nat) (a b : AR), s.ar[i]? = some a → s.ar[j]? = some b → a.out = true → b.out = true → a.id = b.id → i = j
  torn : ∀ (k : Nat) (x : List UInt8), s.pl[k]? = some x → tornS x = true → ∃ (i : Nat) (a : AR), s.ar[i]? = some a ∧ a.out = true ∧ a.id = (k : Int)
  img : ∀ (i : Nat) (a : AR) (x : List UInt8), s.ar[i]? = some a → a.out = true → s.pl[a.id.toNat]? = some x → tornS x = true → tornS a.img = false
structure SRel (s r : SS) : Prop where
  inv : SInv s
  rok : ROk r
  pl : s.pl = r.pl
  nd : ∀ (i : Nat) (a b : AR), s.ar[i]? = some a → r.ar[i]? = some b → a.out = b.out ∧ (a.out = true → a.id = b.id ∧ ∀ x, s.pl[a.id.toNat]? = some x → tornS x = true → a.img = b.img)
theorem layB_3 {x img : List UInt8} {m : Nat} (h : m % 4 = 3) : layB x img m = img := by
  unfold layB
  rw [if_pos (by omega), if_pos (by omega), List.take_append_drop]
theorem layB_0 {x img : List UInt8} {m : Nat} (h : m % 4 = 0) : layB x img m = x := by
  unfold layB
  rw [if_neg (by omega), if_neg (by omega), List.take_append_drop]
theorem there_num {s : SS} {id : Int} (h2 : s.pl.length ≤ 32) (h : thereP s id = true) : numberP id = true := by
  rw [thereP_iff] at h
  exact numberP_iff.2 (by omega)
theorem img_whole {k : Nat} {p : PG} (hp : POk p) (hr : rightP p = true) : tornS (imageS k p) = false := (image_mid hp.len hr).2.2.2.1
/-- What a Write that goes through leaves. -/
theorem sWrite_shape {s : SS} (h : SInv s) {n id : Int} {p : PG} (hp : POk p) {m : Int} (hc : nodeP n = true ∧ thereP s id = true ∧ wholeP m = true) (he : (encS id p).2 = 0) (hb : busyS s n id = false) (hl : ¬ p.lsn ≤ (stampS (plAt s id)).1) :
    ∃ (j k : Nat) (a : AR) (x : List UInt8) (mk : Nat), n = (j : Int) ∧ id = (k : Int) ∧ m = (mk : Int) ∧ s.ar[j]? = some a ∧ s.pl[k]? = some x ∧ j < s.ar.length ∧ k < s.pl.length ∧ k < 32 ∧ x.length = 256 ∧ tornS x = false ∧ a.out = false ∧ rightP p = true ∧ a.img.length = 256 ∧ mk ≤ 15 ∧ (mk < 4 ∨ mk % 4 = 3) ∧ plAt s id = x ∧
      sWrite s n id p m = if m = 15 then (⟨s.pl.set k (layB x (imageS k p) (mk / 4)), s.ar.set j ⟨layB a.img (imageS k p) mk, a.out, a.id⟩⟩, 0) else (⟨s.pl.set k (layB x (imageS k p) (mk / 4)), s.ar.set j ⟨layB a.img (imageS k p) mk, true, (k : Int)⟩⟩, 9) := by
  obtain ⟨k, x, rfl, hk, hx, hxl, hxe⟩ := h.ok.pl_at hc.2.1
  obtain ⟨j, a, rfl, hj, ha, hae, ham⟩ := h.ok.ar_at hc.1
  obtain ⟨w1, w2, w3⟩ := wholeP_iff.1 hc.2.2
  obtain ⟨mk, rfl⟩ := Int.eq_ofNat_of_zero_le w1
  obtain ⟨_, hr, hen⟩ := encS_ok he
  have hW := sWrite_yes hc he hb hl
  rw [hxe, hae, hen] at hW
  simp only [Int.toNat_natCast] at hW hen
  have hnt : tornS x = false := by
    cases ht : tornS x
    · rfl
    · obtain ⟨i, b, hb1, hb2, hb3⟩ := h.torn k x hx ht
      exact absurd hb3 (busyS_not hb hb1 hb2).2
  have hao : a.out = false := by
    cases hu : a.out
    · rfl
    · exact absurd rfl (busyS_not hb ha hu).1
  have := h.ok.pl2
  exact ⟨j, k, a, x, mk, rfl, rfl, rfl, ha, hx, by rw [h.ok.ar]; exact hj, hk, by omega, hxl, hnt, hao, hr, (h.ok.alen a ham).1, by omega, by omega, hxe, hW⟩
theorem sWrite_inv {s : SS} (h : SInv s) {n id : Int} {p : PG} (hp : POk p) (m : Int) : SInv (sWrite s n id p m).1 := by
  by_cases hc : nodeP n = true ∧ thereP s id = true ∧ wholeP m = true
  · by_cases he : (encS id p).2 = 0
    · cases hb : busyS s n id
      · by_cases hl : p.lsn ≤ (stampS (plAt s id)).1
        · rw [sWrite_l hc he hb hl]; exact h
        · have hok := sWrite_ok (n := n) (id := id) h.ok hp m
          obtain ⟨j, k, a, x, mk, rfl, rfl, rfl, ha, hx, hj, hk, hk32, hxl, hnt, hao, hr, hal, hm15, hm, hxe, hW⟩ := sWrite_shape h hp hc he hb hl
          have him : tornS (imageS k p) = false := img_whole hp hr
          rw [hW] at hok ⊢
          by_cases h15 : (mk : Int) = 15
          · rw [if_pos h15] at hok ⊢
            have e3 : layB x (imageS k p) (mk / 4) = imageS k p := layB_3 (by omega)
            simp only [e3] at hok ⊢
            refine ⟨hok, ?_, ?_, ?_⟩
            · intro i i' b b' h1 h2 h3 h4 h5
              simp only [set_get hj] at h1 h2
              split at h1
              · cases h1; rw [hao] at h3; cases h3
              · split at h2
                · cases h2; rw [hao] at h4; cases h4
                · exact h.dist i i' b b' h1 h2 h3 h4 h5
            · intro k' y h1 h2
              simp only [set_get hk] at h1
              split at h1
              · cases h1; rw [him] at h2; cases h2
              · obtain ⟨i, b, g1, g2, g3⟩ := h.torn k' y h1 h2
                refine ⟨i, b, ?_, g2, g3⟩
                simp only [set_get hj]
                rw [if_neg (fun e => by subst e; rw [ha] at g1; cases g1; rw [hao] at g2; cases g2)]
                exact g1
            · intro i b y h1 h2 h3 h4
              simp only [set_get hj] at h1
              split at h1
              · cases h1; rw [hao] at h2; cases h2
              · simp only [set_get hk] at h3
                split at h3
                · cases h3; rw [him] at h4; cases h4
                · exact h.img i b y h1 h2 h3 h4
          · rw [if_neg h15] at hok ⊢
            refine ⟨hok, ?_, ?_, ?_⟩
            · intro i i' b b' h1 h2 h3 h4 h5
              simp only [set_get hj] at h1 h2
              split at h1
              · cases h1
                split at h2
                · rename_i e1 e2; rw [e1, e2]
                · exact absurd h5.symm (busyS_not hb h2 h4).2
              · split at h2
                · cases h2
                  exact absurd h5 (busyS_not hb h1 h3).2
                · exact h.dist i i' b b' h1 h2 h3 h4 h5
            · intro k' y h1 h2
              simp only [set_get hk] at h1
              split at h1
              · rename_i e
                subst e
                exact ⟨j, _, by simp only [set_get hj, if_true]; rfl, rfl, rfl⟩
              · obtain ⟨i, b, g1, g2, g3⟩ := h.torn k' y h1 h2
                refine ⟨i, b, ?_, g2, g3⟩
                simp only [set_get hj]
                rw [if_neg (fun e => by subst e; rw [ha] at g1; cases g1; rw [hao] at g2; cases g2)]
                exact g1
            · intro i b y h1 h2 h3 h4
              simp only [set_get hj] at h1
              split at h1
              · cases h1
                simp only [set_get hk, Int.toNat_natCast, if_true] at h3
                cases h3
                rcases hm with hm | hm
                · rw [layB_0 (by omega), hnt] at h4; cases h4
                · rw [layB_3 hm]; exact him
              · have hne := (busyS_not hb h1 h2).2
                have hb1 := (h.ok.alen b (List.mem_of_getElem? h1)).2.2.2 h2
                simp only [set_get hk] at h3
                split at h3
                · rename_i e; exact absurd (show b.id = (k : Int) by omega) hne
                · exact h.img i b y h1 h2 h3 h4
      · rw [sWrite_b hc he hb]; exact h
    · rw [sWrite_e hc he]; exact h
  · rw [sWrite_1 hc]; exact h
theorem sMend_inv {s : SS} (h : SInv s) (n m : Int) : SInv (sMend s n m).1 := by
  have hok := sMend_ok h.ok n m
  by_cases hc : nodeP n = true ∧ 0 ≤ m ∧ m ≤ 3
  · obtain ⟨j, a, rfl, hj8, ha, haa, ham⟩ := h.ok.ar_at hc.1
    have hj : j < s.ar.length := by rw [h.ok.ar]; exact hj8
    obtain ⟨mk, rfl⟩ := Int.eq_ofNat_of_zero_le hc.2.1
    by_cases hu : a.out = true ∧ tornS (plAt s a.id) = true
    · obtain ⟨x, hx, hxl, hxe, h0, h1, hk⟩ := h.ok.pl_id ham hu.1
      have htx : tornS x = true := by rw [← hxe]; exact hu.2
      have hti := h.img j a x ha hu.1 hx htx
      have hM := sMend_y hc haa hu.1 hxe htx
      rw [hM] at hok ⊢
      simp only [Int.toNat_natCast] at hok ⊢
      by_cases h3 : (mk : Int) = 3
      · rw [if_neg (by simpa using h3)] at hok ⊢
        rw [layB_3 (by omega)] at hok ⊢
        refine ⟨hok, ?_, ?_, ?_⟩
        · intro i i' b b' h1 h2 h3 h4 h5
          simp only [set_get hj] at h1 h2
          split at h1
          · cases h1; cases h3
          · split at h2
            · cases h2; cases h4
            · exact h.dist i i' b b' h1 h2 h3 h4 h5
        · intro k' y h1 h2
          simp only [set_get hk] at h1
          split at h1
          · cases h1; rw [hti] at h2; cases h2
          · rename_i hne
            obtain ⟨i, b, g1, g2, g3⟩ := h.torn k' y h1 h2
            refine ⟨i, b, ?_, g2, g3⟩
            simp only [set_get hj]
            rw [if_neg (fun e => by subst e; rw [ha] at g1; cases g1; exact hne (by omega))]
            exact g1
        · intro i b y h1 h2 h3 h4
          simp only [set_get hj] at h1
          split at h1
          · cases h1; cases h2
          · rename_i hne
            simp only [set_get hk] at h3
            split at h3
            · cases h3; rw [hti] at h4; cases h4
            · exact h.img i b y h1 h2 h3 h4
      · rw [if_pos (by simpa using h3)] at hok ⊢
        refine ⟨hok, h.dist, ?_, ?_⟩
        · intro k' y h1 h2
          simp only [set_get hk] at h1
          split at h1
          · rename_i e
            exact ⟨j, a, ha, hu.1, by omega⟩
          · exact h.torn k' y h1 h2
        · intro i b y h1 h2 h3 h4
          simp only [set_get hk] at h3
          split at h3
          · rename_i e
            have hb1 := (h.ok.alen b (List.mem_of_getElem? h1)).2.2.2 h2
            have := h.dist i j b a h1 ha h2 hu.1 (by omega)
            subst this
            rw [ha] at h1
            cases h1
            exact hti
          · exact h.img i b y h1 h2 h3 h4
    · have hM := sMend_n hc haa hu
      rw [hM] at hok ⊢
      simp only [Int.toNat_natCast] at hok ⊢
      refine ⟨hok, ?_, ?_, ?_⟩
      · intro i i' b b' h1 h2 h3 h4 h5
        simp only [set_get hj] at h1 h2
        split at h1
        · cases h1; cases h3
        · split at h2
          · cases h2; cases h4
          · exact h.dist i i' b b' h1 h2 h3 h4 h5
      · intro k' y h1 h2
        obtain ⟨i, b, g1, g2, g3⟩ := h.torn k' y h1 h2
        refine ⟨i, b, ?_, g2, g3⟩
        simp only [set_get hj]
        rw [if_neg (fun e => by
          subst e; rw [ha] at g1; cases g1
          exact hu ⟨g2, by rw [g3, plAt_eq (s := s) h1]; exact h2⟩)]
        exact g1
      · intro i b y h1 h2 h3 h4
        simp only [set_get hj] at h1
        split at h1
        · cases h1; cases h2
        · exact h.img i b y h1 h2 h3 h4
  · rw [sMend_1 hc]; exact h
theorem sNew_inv (pages : Int) : SInv (sNew pages) := by
  have hno : ∀ (i : Nat) (a : AR), (sNew pages).ar[i]? = some a → a.out = false := fun i a h => by
    have := List.mem_of_getElem? h
    simp only [sNew] at this
    rw [List.eq_of_mem_replicate this]
    rfl
  refine ⟨sNew_ok pages, (fun i j a b h1 h2 h3 => by rw [hno i a h1] at h3; cases h3), fun k x h1 h2 => ?_, (fun i a x h1 h2 => by rw [hno i a h1] at h2; cases h2)⟩
  have := List.mem_of_getElem? h1
  simp only [sNew, List.mem_map] at this
  obtain ⟨q, _, rfl⟩ := this
  rw [img_whole noPg_ok (by decide)] at h2
  cases h2
theorem SRel.busy {s r : SS} (h : SRel s r) (n id : Int) : busyS r n id = busyS s n id := by
  rw [Bool.eq_iff_iff, busyS_iff, busyS_iff]
  have l1 := h.inv.ok.ar
  have l2 := h.rok.ar
  constructor
  · rintro ⟨i, b, hb, hu, hor⟩
    have hi : i < r.ar.length := (List.getElem?_eq_some_iff.1 hb).1
    have ha : s.ar[i]? = some (s.ar[i]'(by omega)) := List.getElem?_eq_getElem (by omega)
    obtain ⟨h1, h2⟩ := h.nd i _ b ha hb
    exact ⟨i, _, ha, by rw [h1]; exact hu, by rw [(h2 (by rw [h1]; exact hu)).1]; exact hor⟩
  · rintro ⟨i, a, ha, hu, hor⟩
    have hi : i < s.ar.length := (List.getElem?_eq_some_iff.1 ha).1
    have hb : r.ar[i]? = some (r.ar[i]'(by omega)) := List.getElem?_eq_getElem (by omega)
    obtain ⟨h1, h2⟩ := h.nd i a _ ha hb
    exact ⟨i, _, hb, by rw [← h1]; exact hu, by rw [← (h2 hu).1]; exact hor⟩
theorem SRel.there {s r : SS} (h : SRel s r) (id : Int) : thereP r id = thereP s id := by unfold thereP; rw [h.pl]
theorem SRel.plAt {s r : SS} (h : SRel s r) (id : Int) : plAt r id = plAt s id := by unfold Go.Q.plAt; rw [h.pl]
theorem SRel.write {s r : SS} (h : SRel s r) (n id : Int) {p : PG} (hp : POk p) (m : Int) : (rWrite r n id p m).2 = (sWrite s n id p m).2 ∧ SRel (sWrite s n id p m).1 (rWrite r n id p m).1 := by
  have hinv := sWrite_inv h.inv (n := n) (id := id) hp m
  have hrok := rWrite_ok h.rok (n := n) (id := id) hp m
  by_cases hc : nodeP n = true ∧ thereP s id = true ∧ wholeP m = true
  · have hnum := there_num h.inv.ok.pl2 hc.2.1
    by_cases he : (encS id p).2 = 0
    · obtain ⟨_, hr, _⟩ := encS_ok he
      have hc2 : nodeP n = true ∧ thereP r id = true ∧ rightP p = true ∧ wholeP m = true := ⟨hc.1, by rw [h.there]; exact hc.2.1, hr, hc.2.2⟩
      cases hb : busyS s n id
      · have hb2 : busyS r n id = false := by rw [h.busy]; exact hb
        by_cases hl : p.lsn ≤ (stampS (Go.Q.plAt s id)).1
        · rw [sWrite_l hc he hb hl, rWrite_l hc2 hb2 (by rw [h.plAt]; exact hl)]
          exact ⟨rfl, h⟩
        · obtain ⟨j, k, a, x, mk, rfl, rfl, rfl, ha, hx, hj, hk, hk32, hxl, hnt, hao, _, hal, hm15, hm, hxe, hW⟩ := sWrite_shape h.inv hp hc he hb hl
          have hR := rWrite_yes hc2 hb2 (by rw [h.plAt]; exact hl)
          rw [h.plAt, hxe, ← h.pl] at hR
          simp only [Int.toNat_natCast] at hR
          have him : tornS (imageS k p) = false := img_whole hp hr
          rw [hW] at hinv
          rw [hR] at hrok
          rw [hW, hR]
          have l1 := h.inv.ok.ar
          have l2 := h.rok.ar
          have hj2 : j < r.ar.length := by omega
          by_cases h15 : (mk : Int) = 15
          · rw [if_pos h15] at hinv hrok
            rw [if_pos h15, if_pos h15]
            refine ⟨rfl, hinv, hrok, rfl, ?_⟩
            intro i c d h1 h2
            simp only [set_get hj] at h1
            simp only [set_get hj2] at h2
            split at h1
            · rename_i e
              rw [if_pos e] at h2
              cases h1; cases h2
              exact ⟨hao, fun hu => by rw [hao] at hu; cases hu⟩
            · rename_i e
              rw [if_neg e] at h2
              obtain ⟨g1, g2⟩ := h.nd i c d h1 h2
              refine ⟨g1, fun hu => ⟨(g2 hu).1, fun y h3 h4 => ?_⟩⟩
              simp only [set_get hk] at h3
              split at h3
              · rename_i e2
                have hc1 := (h.inv.ok.alen c (List.mem_of_getElem? h1)).2.2.2 hu
                exact absurd (show c.id = (k : Int) by omega) (busyS_not hb h1 hu).2
              · exact (g2 hu).2 y h3 h4
          · rw [if_neg h15] at hinv hrok
            rw [if_neg h15, if_neg h15]
            refine ⟨rfl, hinv, hrok, rfl, ?_⟩
            intro i c d h1 h2
            simp only [set_get hj] at h1
            simp only [set_get hj2] at h2
            split at h1
            · rename_i e
              rw [if_pos e] at h2
              cases h1; cases h2
              refine ⟨rfl, fun _ => ⟨rfl, fun y h3 h4 => ?_⟩⟩
              simp only [set_get hk, Int.toNat_natCast, if_true] at h3
              cases h3
              rcases hm with hm | hm
              · rw [layB_0 (by omega), hnt] at h4; cases h4
              · exact layB_3 hm
            · rename_i e
              rw [if_neg e] at h2
              obtain ⟨g1, g2⟩ := h.nd i c d h1 h2
              refine ⟨g1, fun hu => ⟨(g2 hu).1, fun y h3 h4 => ?_⟩⟩
              simp only [set_get hk] at h3
              split at h3
              · rename_i e2
                have hc1 := (h.inv.ok.alen c (List.mem_of_getElem? h1)).2.2.2 hu
                exact absurd (show c.id = (k : Int) by omega) (busyS_not hb h1 hu).2
              · exact (g2 hu).2 y h3 h4
      · rw [sWrite_b hc he hb, rWrite_b hc2 (by rw [h.busy]; exact hb)]
        exact ⟨rfl, h⟩
    · obtain ⟨e1, e2⟩ := encS_err he
      have hr : rightP p = false := by
        rcases e2 with e2 | e2 | e2
        · exact e2
        · exact absurd e2 (by have := (numberP_iff.1 hnum).1; omega)
        · exact absurd e2 (by have := (numberP_iff.1 hnum).2; omega)
      rw [sWrite_e hc he, rWrite_1 (by rintro ⟨_, _, h3, _⟩; rw [hr] at h3; cases h3), e1]
      exact ⟨rfl, h⟩
  · rw [sWrite_1 hc, rWrite_1 (by rintro ⟨h1, h2, _, h4⟩; exact hc ⟨h1, by rw [← h.there]; exact h2, h4⟩)]
    exact ⟨rfl, h⟩
theorem SRel.mend {s r : SS} (h : SRel s r) (n m : Int) : (rMend r n m).2 = (sMend s n m).2 ∧ SRel (sMend s n m).1 (rMend r n m).1 := by
  have hinv := sMend_inv h.inv n m
  have hrok := rMend_ok h.rok n m
  have l1 := h.inv.ok.ar
  have l2 := h.rok.ar
  by_cases hc : nodeP n = true ∧ 0 ≤ m ∧ m ≤ 3
  · obtain ⟨j, a, rfl, hj8, ha, haa, ham⟩ := h.inv.ok.ar_at hc.1
    have hj : j < s.ar.length := by omega
    have hj2 : j < r.ar.length := by omega
    have hb : r.ar[j]? = some r.ar[j] := List.getElem?_eq_getElem hj2
    have hba := arAt_eq hb
    generalize r.ar[j] = b at hb hba
    obtain ⟨g1, g2⟩ := h.nd j a b ha hb
    obtain ⟨mk, rfl⟩ := Int.eq_ofNat_of_zero_le hc.2.1
    by_cases hu : a.out = true ∧ tornS (Go.Q.plAt s a.id) = true
    · obtain ⟨x, hx, hxl, hxe, h0, h1, hk⟩ := h.inv.ok.pl_id ham hu.1
      have htx : tornS x = true := by rw [← hxe]; exact hu.2
      obtain ⟨gid, gimg⟩ := g2 hu.1
      have gi := gimg x hx htx
      have hM := sMend_y hc haa hu.1 hxe htx
      have hR := rMend_y hc hba (by rw [← g1]; exact hu.1) (show Go.Q.plAt r b.id = x by rw [h.plAt, ← gid]; exact hxe) htx
      rw [← gid, ← gi, ← h.pl] at hR
      rw [hM] at hinv
      rw [hR] at hrok
      rw [hM, hR]
      simp only [Int.toNat_natCast] at hinv hrok ⊢
      by_cases h3 : (mk : Int) = 3
      · rw [if_neg (by simpa using h3)] at hinv hrok
        rw [if_neg (by simpa using h3), if_neg (by simpa using h3)]
        refine ⟨rfl, hinv, hrok, rfl, ?_⟩
        intro i c d h1 h2
        simp only [set_get hj] at h1
        simp only [set_get hj2] at h2
        split at h1
        · rename_i e
          rw [if_pos e] at h2
          cases h1; cases h2
          exact ⟨rfl, fun hu => by cases hu⟩
        · rename_i e
          rw [if_neg e] at h2
          obtain ⟨g1, g2⟩ := h.nd i c d h1 h2
          refine ⟨g1, fun hu2 => ⟨(g2 hu2).1, fun y h3 h4 => ?_⟩⟩
          simp only [set_get hk] at h3
          split at h3
          · rename_i e2
            have hc1 := (h.inv.ok.alen c (List.mem_of_getElem? h1)).2.2.2 hu2
            exact absurd (h.inv.dist i j c a h1 ha hu2 hu.1 (by omega)) e
          · exact (g2 hu2).2 y h3 h4
      · rw [if_pos (by simpa using h3)] at hinv hrok
        rw [if_pos (by simpa using h3), if_pos (by simpa using h3)]
        refine ⟨rfl, hinv, hrok, rfl, ?_⟩
        intro i c d h1 h2
        obtain ⟨g1, g2⟩ := h.nd i c d h1 h2
        refine ⟨g1, fun hu2 => ⟨(g2 hu2).1, fun y h3 h4 => ?_⟩⟩
        simp only [set_get hk] at h3
        split at h3
        · rename_i e2
          have hc1 := (h.inv.ok.alen c (List.mem_of_getElem? h1)).2.2.2 hu2
          have := h.inv.dist i j c a h1 ha hu2 hu.1 (by omega)
          subst this
          rw [ha] at h1; rw [hb] at h2
          cases h1; cases h2
          exact gi
        · exact (g2 hu2).2 y h3 h4
    · have hM := sMend_n hc haa hu
      have hR := rMend_n hc hba (show ¬ (b.out = true ∧ tornS (Go.Q.plAt r b.id) = true) by
        rintro ⟨e1, e2⟩
        rw [← g1] at e1
        rw [h.plAt, ← (g2 e1).1] at e2
        exact hu ⟨e1, e2⟩)
      rw [hM] at hinv
      rw [hR] at hrok
      rw [hM, hR]
      simp only [Int.toNat_natCast] at hinv hrok ⊢
      refine ⟨trivial, hinv, hrok, h.pl, ?_⟩
      intro i c d h1 h2
      simp only [set_get hj] at h1
      simp only [set_get hj2] at h2
      split at h1
      · rename_i e
        rw [if_pos e] at h2
        cases h1; cases h2
        exact ⟨rfl, fun hu => by cases hu⟩
      · rename_i e
        rw [if_neg e] at h2
        exact h.nd i c d h1 h2
  · rw [sMend_1 hc, rMend_1 hc]
    exact ⟨rfl, h⟩
theorem SRel.new (pages : Int) : SRel (sNew pages) (rNew pages) := by
  refine ⟨sNew_inv pages, rNew_ok pages, rfl, fun i a b h1 h2 => ?_⟩
  have m1 := List.mem_of_getElem? h1
  have m2 := List.mem_of_getElem? h2
  simp only [sNew] at m1
  simp only [rNew] at m2
  rw [List.eq_of_mem_replicate m1, List.eq_of_mem_replicate m2]
  exact ⟨rfl, fun h => by cases h⟩
end Go.Q
