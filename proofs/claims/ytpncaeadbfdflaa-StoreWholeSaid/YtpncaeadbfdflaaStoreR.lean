/- The document's store: plain, and its cells. Conditions: none. -/
import Derived.Test.YtpncaeadbfdflaaStoreV
set_option linter.unusedSimpArgs false
set_option linter.unusedVariables false
namespace Go.Q
open Go.RowKit
def noNd : AR := ⟨[], false, 0⟩
structure ROk (s : SS) : Prop where
  pl1 : 1 ≤ s.pl.length
  pl2 : s.pl.length ≤ 32
  plen : ∀ x ∈ s.pl, x.length = 256
  ar : s.ar.length = 8
  alen : ∀ a ∈ s.ar, -9223372036854775808 ≤ a.id ∧ a.id ≤ 9223372036854775807 ∧ (a.out = true → a.img.length = 256 ∧ 0 ≤ a.id ∧ a.id < s.pl.length)
def rNew (pages : Int) : SS := ⟨(List.range (numPl pages)).map fun i => imageS i noPg, List.replicate 8 noNd⟩
def rWrite (s : SS) (n id : Int) (p : PG) (mask : Int) : SS × Int :=
  if ¬ (nodeP n = true ∧ thereP s id = true ∧ rightP p = true ∧ wholeP mask = true) then (s, 1)
  else if busyS s n id = true then (s, 13)
  else if p.lsn ≤ (stampS (plAt s id)).1 then (s, 13)
  else
    let img := imageS id.toNat p
    let pl := s.pl.set id.toNat (layB (plAt s id) img (mask.toNat / 4))
    if mask = 15 then (⟨pl, s.ar.set n.toNat noNd⟩, 0) else (⟨pl, s.ar.set n.toNat ⟨img, true, id⟩⟩, 9)
def rMend (s : SS) (n mask : Int) : SS × Int :=
  if ¬ (nodeP n = true ∧ 0 ≤ mask ∧ mask ≤ 3) then (s, 1)
  else
    let a := arAt s n
    if a.out = true ∧ tornS (plAt s a.id) = true then
      let pl := s.pl.set a.id.toNat (layB (plAt s a.id) a.img mask.toNat)
      if mask ≠ 3 then (⟨pl, s.ar⟩, 9) else (⟨pl, s.ar.set n.toNat noNd⟩, 0)
    else (⟨s.pl, s.ar.set n.toNat noNd⟩, 0)
/-! ### cells -/
def rnV (a : AR) : List Value := [T a.img, .bool a.out, .int .i64 a.id]
def rnsV (l : List AR) : List Value := l.flatMap rnV
def rsbV (x : SB) : List Value := .slice x.A x.n x.c :: rnsV x.ar
def noRSB : SB := ⟨none, 0, 0, List.replicate 8 noNd⟩
def strC (x : List UInt8) : List Value := [T x]
def cRStore (t9 tR b : Nat) (s : SS) : Chk := cEx fun x : Option Addr × Nat × Nat => cSep (cOwn t9 1 x.1 x.2.1 x.2.2 (s.pl.flatMap strC)) (cBlk b tR (rsbV ⟨x.1, x.2.1, x.2.2, s.ar⟩))
theorem rnV_len (a : AR) : (rnV a).length = 3 := rfl
theorem rnV_one (a : AR) : ∀ v ∈ rnV a, v.oneCell' = true := by
  intro v hv
  simp only [rnV, List.mem_cons, List.not_mem_nil, or_false] at hv
  rcases hv with rfl | rfl | rfl <;> rfl
theorem rnsV_len {l : List AR} (h : l.length = 8) : (rnsV l).length = 24 := by rw [rnsV, flat_lenL fun a _ => rnV_len a, h]
theorem rsbV_len {x : SB} (h : x.ar.length = 8) : (rsbV x).length = 25 := by rw [rsbV, List.length_cons, rnsV_len h]
theorem rns_get {l : List AR} {i : Nat} {a : AR} (ha : l[i]? = some a) : ((rnsV l).drop (i * 3)).take 3 = rnV a := flat_drop rnV rnV_len l i a ha
theorem rsb_get {x : SB} {i k : Nat} {a : AR} (ha : x.ar[i]? = some a) (hk : k < 3) : (rsbV x)[1 + i * 3 + k]? = (rnV a)[k]? := by
  rw [rsbV, show 1 + i * 3 + k = (i * 3 + k) + 1 by omega, List.getElem?_cons_succ]
  exact flat_atL (fun a _ => rnV_len a) ha hk
theorem rsb_at0 {x : SB} {i : Nat} {a : AR} (ha : x.ar[i]? = some a) : (rsbV x)[1 + i * 3 + 0]? = some (T a.img) := rsb_get ha (by omega)
theorem rsb_at1 {x : SB} {i : Nat} {a : AR} (ha : x.ar[i]? = some a) : (rsbV x)[1 + i * 3 + 1]? = some (.bool a.out) := rsb_get ha (by omega)
theorem rsb_at2 {x : SB} {i : Nat} {a : AR} (ha : x.ar[i]? = some a) : (rsbV x)[1 + i * 3 + 2]? = some (.int .i64 a.id) := rsb_get ha (by omega)
theorem rsb_node {x : SB} {i : Nat} {a : AR} (ha : x.ar[i]? = some a) : ((rsbV x).drop (1 + i * 3)).take 3 = rnV a := by
  rw [rsbV, show 1 + i * 3 = (i * 3) + 1 by omega, List.drop_succ_cons]
  exact rns_get ha
theorem rsb_set {x : SB} {i : Nat} (a : AR) (hi : i < x.ar.length) : (rsbV x).take (1 + i * 3) ++ rnV a ++ (rsbV x).drop (1 + i * 3 + 3) = rsbV ⟨x.A, x.n, x.c, x.ar.set i a⟩ := by
  have := flat_set rnV rnV_len a x.ar i hi
  simp only [rsbV]
  rw [show 1 + i * 3 = (i * 3) + 1 by omega, show i * 3 + 1 + 3 = (i * 3 + 3) + 1 by omega, List.take_succ_cons, List.drop_succ_cons]
  simp only [rnsV, List.cons_append]
  rw [this]
theorem str_len (l : List (List UInt8)) : (l.flatMap strC).length = l.length := by
  rw [flat_lenL (sz := 1) fun a _ => rfl, Nat.mul_one]
theorem str_at {l : List (List UInt8)} {i : Nat} {x : List UInt8} (h : l[i]? = some x) : (l.flatMap strC)[i]? = some (T x) := by
  have := flat_atL (g := strC) (sz := 1) (k := 0) (fun a _ => rfl) h (by omega)
  simpa [strC] using this
theorem str_set {l : List (List UInt8)} {i : Nat} {y : List UInt8} : (l.flatMap strC).set i (T y) = (l.set i y).flatMap strC := by
  have e : ∀ l : List (List UInt8), l.flatMap strC = l.map T := fun l => by
    induction l with
    | nil => rfl
    | cons a l ih => rw [List.flatMap_cons, ih]; rfl
  rw [e, e, List.map_set]
theorem cRStore_rd {t9 tR b : Nat} {s : SS} {w : World} {F : List Nat} (h : (cRStore t9 tR b s).p w F) : ∃ A n c, Blk w b tR (rsbV ⟨A, n, c, s.ar⟩) ∧ RdS w 1 A n c (s.pl.flatMap strC) := by
  obtain ⟨⟨A, n, c⟩, F1, F2, h1, h2, _, _⟩ := h
  exact ⟨A, n, c, h2.1, h1.1.rd⟩
theorem rrow_len {s : SS} {w : World} {A : Option Addr} {n c : Nat} (h : RdS w 1 A n c (s.pl.flatMap strC)) : s.pl.length = n := by
  have h1 := h.len
  rw [str_len] at h1
  omega
theorem lay_str {x img : List UInt8} {bits : Nat} {a b : List UInt8} (hx : x.length = 256) (ha : a = if bits % 2 = 1 then img.take 128 else x.take 128) (hb : b = if bits / 2 % 2 = 1 then img.drop 128 else x.drop 128) : a ++ b = layB x img bits := by
  rw [ha, hb, layB]
theorem ROk.pl_at {s : SS} (ok : ROk s) {id : Int} (h : thereP s id = true) : ∃ (k : Nat) (x : List UInt8), id = (k : Int) ∧ k < s.pl.length ∧ s.pl[k]? = some x ∧ x.length = 256 ∧ plAt s id = x := by
  rw [thereP_iff] at h
  obtain ⟨k, rfl⟩ := Int.eq_ofNat_of_zero_le h.1
  have hk : k < s.pl.length := by omega
  have hx : s.pl[k]? = some s.pl[k] := List.getElem?_eq_getElem hk
  exact ⟨k, s.pl[k], rfl, hk, hx, ok.plen _ (List.mem_of_getElem? hx), plAt_eq hx⟩
theorem ROk.ar_at {s : SS} (ok : ROk s) {n : Int} (h : nodeP n = true) : ∃ (j : Nat) (a : AR), n = (j : Int) ∧ j < 8 ∧ s.ar[j]? = some a ∧ arAt s n = a ∧ a ∈ s.ar := by
  rw [nodeP_iff] at h
  obtain ⟨j, rfl⟩ := Int.eq_ofNat_of_zero_le h.1
  have hj : j < s.ar.length := by rw [ok.ar]; omega
  have ha : s.ar[j]? = some s.ar[j] := List.getElem?_eq_getElem hj
  exact ⟨j, s.ar[j], rfl, by omega, ha, arAt_eq ha, List.getElem_mem hj⟩
theorem ROk.pl_id {s : SS} (ok : ROk s) {a : AR} (ha : a ∈ s.ar) (hu : a.out = true) : ∃ x : List UInt8, s.pl[a.id.toNat]? = some x ∧ x.length = 256 ∧ plAt s a.id = x ∧ 0 ≤ a.id ∧ a.id < s.pl.length ∧ a.id.toNat < s.pl.length ∧ a.img.length = 256 := by
  obtain ⟨_, _, h⟩ := ok.alen a ha
  obtain ⟨hi, h0, h1⟩ := h hu
  have hk : a.id.toNat < s.pl.length := by omega
  have hx : s.pl[a.id.toNat]? = some s.pl[a.id.toNat] := List.getElem?_eq_getElem hk
  exact ⟨_, hx, ok.plen _ (List.mem_of_getElem? hx), by simp [plAt, List.getD, hx], h0, h1, hk, hi⟩
theorem ROk.upd {s : SS} (ok : ROk s) {k j : Nat} {y : List UInt8} {a : AR} (hy : y.length = 256) (ha : -9223372036854775808 ≤ a.id ∧ a.id ≤ 9223372036854775807 ∧ (a.out = true → a.img.length = 256 ∧ 0 ≤ a.id ∧ a.id < s.pl.length)) : ROk ⟨s.pl.set k y, s.ar.set j a⟩ :=
  ⟨by simpa using ok.pl1, by simpa using ok.pl2, fun x hx => by
    rcases List.mem_or_eq_of_mem_set hx with h | rfl
    · exact ok.plen x h
    · exact hy, by simpa using ok.ar, fun b hb => by
    rcases List.mem_or_eq_of_mem_set hb with h | rfl
    · simpa using ok.alen b h
    · simpa using ha⟩
theorem ROk.updP {s : SS} (ok : ROk s) {k : Nat} {y : List UInt8} (hy : y.length = 256) : ROk ⟨s.pl.set k y, s.ar⟩ :=
  ⟨by simpa using ok.pl1, by simpa using ok.pl2, fun x hx => by
    rcases List.mem_or_eq_of_mem_set hx with h | rfl
    · exact ok.plen x h
    · exact hy, ok.ar, fun b hb => by simpa using ok.alen b hb⟩
theorem ROk.updA {s : SS} (ok : ROk s) {j : Nat} {a : AR} (ha : -9223372036854775808 ≤ a.id ∧ a.id ≤ 9223372036854775807 ∧ (a.out = true → a.img.length = 256 ∧ 0 ≤ a.id ∧ a.id < s.pl.length)) : ROk ⟨s.pl, s.ar.set j a⟩ :=
  ⟨ok.pl1, ok.pl2, ok.plen, by simpa using ok.ar, fun b hb => by
    rcases List.mem_or_eq_of_mem_set hb with h | rfl
    · exact ok.alen b h
    · exact ha⟩
theorem rNew_ok (pages : Int) : ROk (rNew pages) := by
  have h1 : 1 ≤ numPl pages := by unfold numPl; omega
  have h2 : numPl pages ≤ 32 := by unfold numPl; omega
  refine ⟨by simpa [rNew] using h1, by simpa [rNew] using h2, fun x hx => ?_, List.length_replicate, fun a ha => ?_⟩
  · simp only [rNew, List.mem_map, List.mem_range] at hx
    obtain ⟨i, _, rfl⟩ := hx
    exact imageS_len rfl (by decide)
  · simp only [rNew] at ha
    rw [List.eq_of_mem_replicate ha]
    exact ⟨by simp [noNd], by simp [noNd], fun h => by cases h⟩
theorem rWrite_1 {s : SS} {n id : Int} {p : PG} {m : Int} (h : ¬ (nodeP n = true ∧ thereP s id = true ∧ rightP p = true ∧ wholeP m = true)) : rWrite s n id p m = (s, 1) := by rw [rWrite, if_pos h]
theorem rWrite_b {s : SS} {n id : Int} {p : PG} {m : Int} (h : nodeP n = true ∧ thereP s id = true ∧ rightP p = true ∧ wholeP m = true) (hb : busyS s n id = true) : rWrite s n id p m = (s, 13) := by rw [rWrite, if_neg (by simpa using h), if_pos hb]
theorem rWrite_l {s : SS} {n id : Int} {p : PG} {m : Int} (h : nodeP n = true ∧ thereP s id = true ∧ rightP p = true ∧ wholeP m = true) (hb : busyS s n id = false) (hl : p.lsn ≤ (stampS (plAt s id)).1) : rWrite s n id p m = (s, 13) := by
  rw [rWrite, if_neg (by simpa using h), if_neg (by simp [hb]), if_pos hl]
theorem rWrite_yes {s : SS} {n id : Int} {p : PG} {m : Int} (h : nodeP n = true ∧ thereP s id = true ∧ rightP p = true ∧ wholeP m = true) (hb : busyS s n id = false) (hl : ¬ p.lsn ≤ (stampS (plAt s id)).1) :
    rWrite s n id p m = if m = 15 then (⟨s.pl.set id.toNat (layB (plAt s id) (imageS id.toNat p) (m.toNat / 4)), s.ar.set n.toNat noNd⟩, 0) else (⟨s.pl.set id.toNat (layB (plAt s id) (imageS id.toNat p) (m.toNat / 4)), s.ar.set n.toNat ⟨imageS id.toNat p, true, id⟩⟩, 9) := by
  rw [rWrite, if_neg (by simpa using h), if_neg (by simp [hb]), if_neg hl]
theorem rWrite_ok {s : SS} (ok : ROk s) {n id : Int} {p : PG} (hp : POk p) (m : Int) : ROk (rWrite s n id p m).1 := by
  by_cases h : nodeP n = true ∧ thereP s id = true ∧ rightP p = true ∧ wholeP m = true
  · cases hb : busyS s n id
    · by_cases hl : p.lsn ≤ (stampS (plAt s id)).1
      · rw [rWrite_l h hb hl]; exact ok
      · rw [rWrite_yes h hb hl]
        have him := imageS_len (id := id.toNat) hp.len h.2.2.1
        obtain ⟨k, x, rfl, hk, hx, hxl, hpx⟩ := ok.pl_at h.2.1
        have hk2 := ok.pl2
        rw [hpx]
        split
        · exact ok.upd (layB_len hxl him) ⟨by simp [noNd], by simp [noNd], fun h => by cases h⟩
        · exact ok.upd (layB_len hxl him) ⟨by simp only; omega, by simp only; omega, fun _ => ⟨him, by simp only; omega, by simp only; omega⟩⟩
    · rw [rWrite_b h hb]; exact ok
  · rw [rWrite_1 h]; exact ok
theorem rMend_1 {s : SS} {n m : Int} (h : ¬ (nodeP n = true ∧ 0 ≤ m ∧ m ≤ 3)) : rMend s n m = (s, 1) := by rw [rMend, if_pos h]
theorem rMend_n {s : SS} {n m : Int} {a : AR} (h : nodeP n = true ∧ 0 ≤ m ∧ m ≤ 3) (ha : arAt s n = a) (hn : ¬ (a.out = true ∧ tornS (plAt s a.id) = true)) : rMend s n m = (⟨s.pl, s.ar.set n.toNat noNd⟩, 0) := by
  subst ha
  rw [rMend, if_neg (by simpa using h)]
  exact if_neg hn
theorem rMend_y {s : SS} {n m : Int} {a : AR} {x : List UInt8} (h : nodeP n = true ∧ 0 ≤ m ∧ m ≤ 3) (ha : arAt s n = a) (hu : a.out = true) (hx : plAt s a.id = x) (ht : tornS x = true) :
    rMend s n m = if m ≠ 3 then (⟨s.pl.set a.id.toNat (layB x a.img m.toNat), s.ar⟩, 9) else (⟨s.pl.set a.id.toNat (layB x a.img m.toNat), s.ar.set n.toNat noNd⟩, 0) := by
  subst ha hx
  rw [rMend, if_neg (by simpa using h)]
  exact if_pos ⟨hu, ht⟩
theorem rMend_ok {s : SS} (ok : ROk s) (n m : Int) : ROk (rMend s n m).1 := by
  have hz : -9223372036854775808 ≤ noNd.id ∧ noNd.id ≤ 9223372036854775807 ∧ (noNd.out = true → noNd.img.length = 256 ∧ 0 ≤ noNd.id ∧ noNd.id < s.pl.length) := ⟨by simp [noNd], by simp [noNd], fun h => by cases h⟩
  by_cases h : nodeP n = true ∧ 0 ≤ m ∧ m ≤ 3
  · obtain ⟨j, a, rfl, hj, ha, haa, ham⟩ := ok.ar_at h.1
    by_cases hu : a.out = true ∧ tornS (plAt s a.id) = true
    · obtain ⟨x, hx, hxl, hxe, _, _, _, hi⟩ := ok.pl_id ham hu.1
      rw [rMend_y h haa hu.1 hxe (by rw [← hxe]; exact hu.2)]
      split
      · exact ok.updP (layB_len hxl hi)
      · exact ok.upd (layB_len hxl hi) hz
    · rw [rMend_n h haa hu]
      exact ok.updA hz
  · rw [rMend_1 h]
    exact ok
end Go.Q
namespace Go.Q
theorem rsb_nodes {x : SB} (h : x.ar.length = 8) : ((rsbV x).drop 1).take 24 = rnsV x.ar := by
  rw [rsbV, List.drop_succ_cons, List.drop_zero, List.take_of_length_le (by rw [rnsV_len h]; omega)]
theorem rRead_ok {s : SS} (ok : ROk s) (id : Int) : POk (sRead s id).1 := by
  unfold sRead
  split
  · exact decS_ok _ _
  · exact noPg_ok
end Go.Q
