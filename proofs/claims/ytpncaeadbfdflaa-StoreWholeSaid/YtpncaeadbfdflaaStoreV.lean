/- The store's cells; laws for the walks of layer 10. Conditions: none. -/
import Derived.Test.YtpncaeadbfdflaaStore
import Derived.Test.YtpncaeadbfdflaaArgsP
set_option linter.unusedSimpArgs false
set_option linter.unusedVariables false
namespace Go.Q
open Go.RowKit
/-! ### lists of things of one size -/
theorem flat_lenL {α : Type} {g : α → List Value} {sz : Nat} : ∀ {l : List α}, (∀ a ∈ l, (g a).length = sz) → (l.flatMap g).length = l.length * sz
  | [], _ => by simp
  | b :: l, hs => by
    rw [List.flatMap_cons, List.length_append, hs b List.mem_cons_self, flat_lenL fun x hx => hs x (List.mem_cons_of_mem _ hx), List.length_cons, Nat.add_mul]
    omega
theorem flat_dropL {α : Type} {g : α → List Value} {sz : Nat} : ∀ {l : List α} {i : Nat} {a : α}, (∀ a ∈ l, (g a).length = sz) → l[i]? = some a → ((l.flatMap g).drop (i * sz)).take sz = g a
  | [], i, a, _, h => by simp at h
  | b :: l, 0, a, hs, h => by
    simp at h
    subst h
    rw [List.flatMap_cons, Nat.zero_mul, List.drop_zero, List.take_left' (hs _ List.mem_cons_self)]
  | b :: l, i + 1, a, hs, h => by
    rw [List.flatMap_cons, Nat.succ_mul, Nat.add_comm, ← List.drop_drop, List.drop_left' (hs _ List.mem_cons_self)]
    exact flat_dropL (fun x hx => hs x (List.mem_cons_of_mem _ hx)) (by simpa using h)
theorem flat_atL {α : Type} {g : α → List Value} {sz : Nat} {l : List α} {i k : Nat} {a : α} (hs : ∀ a ∈ l, (g a).length = sz) (h : l[i]? = some a) (hk : k < sz) : (l.flatMap g)[i * sz + k]? = (g a)[k]? := by
  have h1 := flat_dropL hs h
  rw [← h1, List.getElem?_take, if_pos hk, List.getElem?_drop]
theorem flat_setL {α : Type} {g : α → List Value} {sz : Nat} (b : α) : ∀ {l : List α} {i : Nat}, (∀ a ∈ l, (g a).length = sz) → i < l.length → (l.flatMap g).take (i * sz) ++ g b ++ (l.flatMap g).drop (i * sz + sz) = (l.set i b).flatMap g
  | [], i, _, h => by simp at h
  | a :: l, 0, hs, _ => by
    simp only [List.flatMap_cons, Nat.zero_mul, List.take_zero, List.nil_append, Nat.zero_add, List.set_cons_zero]
    rw [List.drop_left' (hs a List.mem_cons_self)]
  | a :: l, i + 1, hs, h => by
    have ih := flat_setL (g := g) (sz := sz) b (l := l) (i := i) (fun x hx => hs x (List.mem_cons_of_mem _ hx)) (by simpa using h)
    have ha := hs a List.mem_cons_self
    simp only [List.flatMap_cons, List.set_cons_succ]
    rw [← ih, Nat.succ_mul, show i * sz + sz = sz + i * sz by omega, show sz + i * sz + sz = sz + (i * sz + sz) by omega]
    rw [← List.drop_drop, List.drop_left' ha, List.take_append, ha, List.take_of_length_le (by rw [ha]; omega), show sz + i * sz - sz = i * sz by omega]
    simp only [List.append_assoc, Nat.add_comm sz]
/-! ### areas -/
structure SB where
  A : Option Addr
  n : Nat
  c : Nat
  ar : List AR
def sbV (x : SB) : List Value := .slice x.A x.n x.c :: areasV x.ar
def noSB : SB := ⟨none, 0, 0, List.replicate 8 noAr⟩
def ArOk (l : List AR) : Prop := l.length = 8 ∧ ∀ a ∈ l, a.img.length = 256
theorem areaV_len {a : AR} (h : a.img.length = 256) : (areaV a).length = 258 := by simp [areaV, u8s_len, h]
theorem ArOk.sz {l : List AR} (h : ArOk l) : ∀ a ∈ l, (areaV a).length = 258 := fun a ha => areaV_len (h.2 a ha)
theorem areasV_len {l : List AR} (h : ArOk l) : (areasV l).length = 2064 := by rw [areasV, flat_lenL h.sz, h.1]
theorem sbV_len {x : SB} (h : ArOk x.ar) : (sbV x).length = 2065 := by rw [sbV, List.length_cons, areasV_len h]
theorem sb_areas {x : SB} (h : ArOk x.ar) : ((sbV x).drop 1).take 2064 = areasV x.ar := by
  rw [sbV, List.drop_succ_cons, List.drop_zero, List.take_of_length_le (by rw [areasV_len h]; omega)]
theorem areas_get {l : List AR} {i : Nat} {a : AR} (h : ArOk l) (ha : l[i]? = some a) : ((areasV l).drop (i * 258)).take 258 = areaV a := flat_dropL h.sz ha
theorem sb_get {x : SB} {i k : Nat} {a : AR} (h : ArOk x.ar) (ha : x.ar[i]? = some a) (hk : k < 258) : (sbV x)[1 + i * 258 + k]? = (areaV a)[k]? := by
  rw [sbV, show 1 + i * 258 + k = (i * 258 + k) + 1 by omega, List.getElem?_cons_succ]
  exact flat_atL h.sz ha hk
theorem area_out {a : AR} (h : a.img.length = 256) : (areaV a)[256]? = some (.bool a.out) := by
  rw [areaV, List.getElem?_append_right (by rw [u8s_len]; omega), u8s_len, h]
  rfl
theorem area_id {a : AR} (h : a.img.length = 256) : (areaV a)[257]? = some (.int .i64 a.id) := by
  rw [areaV, List.getElem?_append_right (by rw [u8s_len]; omega), u8s_len, h]
  rfl
theorem ArOk.at_ {l : List AR} {i : Nat} {a : AR} (h : ArOk l) (ha : l[i]? = some a) : a.img.length = 256 := h.2 a (List.mem_of_getElem? ha)
theorem sb_out {x : SB} {i : Nat} {a : AR} (h : ArOk x.ar) (ha : x.ar[i]? = some a) : (sbV x)[1 + i * 258 + 256]? = some (.bool a.out) := (sb_get h ha (by omega)).trans (area_out (h.at_ ha))
theorem sb_id {x : SB} {i : Nat} {a : AR} (h : ArOk x.ar) (ha : x.ar[i]? = some a) : (sbV x)[1 + i * 258 + 257]? = some (.int .i64 a.id) := (sb_get h ha (by omega)).trans (area_id (h.at_ ha))
theorem sb_img {x : SB} {i : Nat} {a : AR} (h : ArOk x.ar) (ha : x.ar[i]? = some a) : ((sbV x).drop (1 + i * 258 + 0)).take 256 = u8s a.img := by
  have h1 := areas_get h ha
  have h2 : ((areasV x.ar).drop (i * 258)).take 256 = (areaV a).take 256 := by rw [← h1, List.take_take]; rfl
  rw [sbV, show 1 + i * 258 + 0 = (i * 258) + 1 by omega, List.drop_succ_cons, h2, areaV, List.take_left' (by rw [u8s_len, h.at_ ha])]
theorem ArOk.set {l : List AR} (h : ArOk l) (i : Nat) {a : AR} (ha : a.img.length = 256) : ArOk (l.set i a) := ⟨by rw [List.length_set]; exact h.1, fun b hb => by
  rcases List.mem_or_eq_of_mem_set hb with h1 | rfl
  · exact h.2 b h1
  · exact ha⟩
theorem sb_setImg {x : SB} {i : Nat} {a : AR} (y : List UInt8) (h : ArOk x.ar) (ha : x.ar[i]? = some a) : (sbV x).take (1 + i * 258 + 0) ++ u8s y ++ (sbV x).drop (1 + i * 258 + 0 + 256) = sbV ⟨x.A, x.n, x.c, x.ar.set i ⟨y, a.out, a.id⟩⟩ := by
  have hi : i < x.ar.length := (List.getElem?_eq_some_iff.1 ha).1
  have h1 := flat_setL (g := areaV) (sz := 258) ⟨y, a.out, a.id⟩ h.sz hi
  have h2 := areas_get h ha
  have h3 : (areasV x.ar).drop (i * 258 + 256) = [.bool a.out, .int .i64 a.id] ++ (areasV x.ar).drop (i * 258 + 258) := by
    have e := List.take_append_drop 2 ((areasV x.ar).drop (i * 258 + 256))
    rw [List.drop_drop] at e
    rw [← e]
    congr 1
    have e2 : ((areasV x.ar).drop (i * 258 + 256)).take 2 = (((areasV x.ar).drop (i * 258)).take 258).drop 256 := by
      rw [List.drop_take, List.drop_drop]
    rw [e2, h2, areaV, List.drop_left' (by rw [u8s_len, h.at_ ha])]
  simp only [sbV]
  rw [show 1 + i * 258 + 0 = (i * 258) + 1 by omega, show i * 258 + 1 + 256 = (i * 258 + 256) + 1 by omega, List.take_succ_cons, List.drop_succ_cons, h3]
  simp only [areasV] at h1 ⊢
  rw [← h1]
  simp [areaV, List.append_assoc]
theorem sb_setOut {x : SB} {i : Nat} {a : AR} (b : Bool) (h : ArOk x.ar) (ha : x.ar[i]? = some a) : (sbV x).set (1 + i * 258 + 256) (.bool b) = sbV ⟨x.A, x.n, x.c, x.ar.set i ⟨a.img, b, a.id⟩⟩ := by
  have hi : i < x.ar.length := (List.getElem?_eq_some_iff.1 ha).1
  have h1 := flat_setL (g := areaV) (sz := 258) ⟨a.img, b, a.id⟩ h.sz hi
  have h2 := areas_get h ha
  simp only [sbV]
  rw [show 1 + i * 258 + 256 = (i * 258 + 256) + 1 by omega, List.set_cons_succ]
  congr 1
  simp only [areasV] at h1 h2 ⊢
  rw [← h1]
  have hl := areasV_len h
  simp only [areasV] at hl
  have hai := h.at_ ha
  have e : x.ar.flatMap areaV = (x.ar.flatMap areaV).take (i * 258) ++ (areaV a ++ (x.ar.flatMap areaV).drop (i * 258 + 258)) := by
    rw [← h2, ← List.drop_drop, List.take_append_drop, List.take_append_drop]
  have hlt : ((x.ar.flatMap areaV).take (i * 258)).length = i * 258 := by rw [List.length_take, hl]; have := h.1; omega
  conv => lhs; rw [e]
  rw [List.set_append_right _ _ (by omega), hlt, show i * 258 + 256 - i * 258 = 256 by omega, List.append_assoc]
  congr 1
  rw [List.set_append_left _ _ (by rw [areaV_len hai]; omega)]
  congr 1
  rw [areaV, List.set_append_right _ _ (by rw [u8s_len]; omega), u8s_len, hai]
  rfl
theorem sb_setId {x : SB} {i : Nat} {a : AR} (k : Int) (h : ArOk x.ar) (ha : x.ar[i]? = some a) : (sbV x).set (1 + i * 258 + 257) (.int .i64 k) = sbV ⟨x.A, x.n, x.c, x.ar.set i ⟨a.img, a.out, k⟩⟩ := by
  have hi : i < x.ar.length := (List.getElem?_eq_some_iff.1 ha).1
  have h1 := flat_setL (g := areaV) (sz := 258) ⟨a.img, a.out, k⟩ h.sz hi
  have h2 := areas_get h ha
  simp only [sbV]
  rw [show 1 + i * 258 + 257 = (i * 258 + 257) + 1 by omega, List.set_cons_succ]
  congr 1
  simp only [areasV] at h1 h2 ⊢
  rw [← h1]
  have hl := areasV_len h
  simp only [areasV] at hl
  have hai := h.at_ ha
  have e : x.ar.flatMap areaV = (x.ar.flatMap areaV).take (i * 258) ++ (areaV a ++ (x.ar.flatMap areaV).drop (i * 258 + 258)) := by
    rw [← h2, ← List.drop_drop, List.take_append_drop, List.take_append_drop]
  have hlt : ((x.ar.flatMap areaV).take (i * 258)).length = i * 258 := by rw [List.length_take, hl]; have := h.1; omega
  conv => lhs; rw [e]
  rw [List.set_append_right _ _ (by omega), hlt, show i * 258 + 257 - i * 258 = 257 by omega, List.append_assoc]
  congr 1
  rw [List.set_append_left _ _ (by rw [areaV_len hai]; omega)]
  congr 1
  rw [areaV, List.set_append_right _ _ (by rw [u8s_len]; omega), u8s_len, hai]
  rfl
/-! ### places -/
theorem u8s_all {x : List UInt8} (h : x.length = 256) : ((u8s x).drop 0).take 256 = u8s x := by rw [List.drop_zero, List.take_of_length_le (by rw [u8s_len]; omega)]
theorem u8s_len256 {x : List UInt8} (h : x.length = 256) : (u8s x).length = 256 := by rw [u8s_len, h]
theorem u8s_one' (x : List UInt8) : ∀ v ∈ u8s x, v.oneCell' = true := fun _ => u8s_one
theorem u8s_sec (x : List UInt8) (o k : Nat) : ((u8s x).drop o).take k = u8s ((x.drop o).take k) := by rw [u8s_drop, u8s_take]
theorem SOk.szP {s : SS} (h : SOk s) : ∀ x ∈ s.pl, (u8s x).length = 256 := fun x hx => u8s_len256 (h.plen x hx)
theorem SOk.arOk {s : SS} (h : SOk s) : ArOk s.ar := ⟨h.ar, fun a ha => (h.alen a ha).1⟩
end Go.Q
namespace Go.Q
def zeroS : List UInt8 := List.replicate 128 0
theorem u8s_len128 {x : List UInt8} (h : x.length = 128) : (u8s x).length = 128 := by rw [u8s_len, h]
theorem u8s_all128 {x : List UInt8} (h : x.length = 128) : ((u8s x).drop 0).take 128 = u8s x := by rw [List.drop_zero, List.take_of_length_le (by rw [u8s_len]; omega)]
theorem sec_len {x : List UInt8} {i : Nat} (h : x.length = 256) (hi : i < 2) : ((x.drop (i * 128)).take 128).length = 128 := by
  rw [List.length_take, List.length_drop]; omega
theorem take_all0 {x : List UInt8} {k : Nat} (h : x.length = k) : (x.drop 0).take k = x := by rw [List.drop_zero, List.take_of_length_le (by omega)]
theorem sec1 {img : List UInt8} (h : img.length = 256) : (u8s zeroP).take 0 ++ u8s (((img.drop 0).take 128).take 128) ++ (u8s zeroP).drop (0 + (u8s (((img.drop 0).take 128).take 128)).length) = u8s (img.take 128 ++ zeroP.drop 128) := by
  rw [List.drop_zero, List.take_take, Nat.min_self, u8s_len, List.length_take, h, List.take_zero, List.nil_append, u8s_app, u8s_drop]
  rfl
theorem sec2 {img : List UInt8} (h : img.length = 256) : (u8s (img.take 128 ++ zeroP.drop 128)).take 128 ++ u8s (((img.drop 128).take 128).take 128) ++ (u8s (img.take 128 ++ zeroP.drop 128)).drop (128 + (u8s (((img.drop 128).take 128).take 128)).length) = u8s img := by
  have e1 : ((img.drop 128).take 128).take 128 = img.drop 128 := by
    rw [List.take_take, Nat.min_self, List.take_of_length_le (by rw [List.length_drop]; omega)]
  have hl : (img.take 128).length = 128 := by rw [List.length_take]; omega
  generalize hz : zeroP.drop 128 = Z
  have hZ : Z.length = 128 := by rw [← hz]; rfl
  have e3 : (img.take 128 ++ Z).drop (128 + (256 - 128)) = [] := List.drop_eq_nil_of_le (by rw [List.length_append, hl, hZ]; omega)
  rw [e1, u8s_len, List.length_drop, h, u8s_take, u8s_drop, List.take_left' hl, e3, ← u8s_app, List.take_append_drop]
  simp [u8s]
theorem secS_len {id : Int} {p : PG} (h : p.cells.length = 8) : (secS id p).1.length = 256 := by
  unfold secS
  split
  · rename_i h1
    obtain ⟨a, b, c⟩ := encS_ok h1
    rw [c]
    exact imageS_len h b
  · simp only [zeroP, List.length_replicate]
theorem secS_yes {id : Int} {p : PG} (h : (encS id p).2 = 0) : secS id p = ((encS id p).1, 0) := by rw [secS, if_pos h]
theorem secS_no {id : Int} {p : PG} (h : (encS id p).2 ≠ 0) : secS id p = (zeroP, (encS id p).2) := by rw [secS, if_neg h]
theorem take_sec {x : List UInt8} {i : Nat} : x.take (i * 128) ++ (x.drop (i * 128)).take 128 = x.take ((i + 1) * 128) := by
  rw [Nat.succ_mul, List.take_add]
theorem and1i (n : Nat) (h : n < 9223372036854775808) : IntKind.i64.wrap ((BitVec.ofInt IntKind.i64.bits (n : Int) &&& BitVec.ofInt IntKind.i64.bits 1).toNat : Int) = ((n % 2 : Nat) : Int) := by
  show IntKind.i64.wrap ((BitVec.ofInt 64 (n : Int) &&& BitVec.ofInt 64 ((1 : Nat) : Int)).toNat : Int) = _
  rw [BitVec.ofInt_natCast, BitVec.ofInt_natCast, BitVec.toNat_and, BitVec.toNat_ofNat, BitVec.toNat_ofNat, Nat.mod_eq_of_lt (by omega), Nat.mod_eq_of_lt (by omega), Nat.and_one_is_mod]
  exact IntWalk.i64_in _ (by omega)
theorem and3i (n : Nat) (h : n < 9223372036854775808) : IntKind.i64.wrap ((BitVec.ofInt IntKind.i64.bits (n : Int) &&& BitVec.ofInt IntKind.i64.bits 3).toNat : Int) = ((n % 4 : Nat) : Int) := by
  show IntKind.i64.wrap ((BitVec.ofInt 64 (n : Int) &&& BitVec.ofInt 64 ((3 : Nat) : Int)).toNat : Int) = _
  rw [BitVec.ofInt_natCast, BitVec.ofInt_natCast, BitVec.toNat_and, BitVec.toNat_ofNat, BitVec.toNat_ofNat, Nat.mod_eq_of_lt (by omega), Nat.mod_eq_of_lt (by omega)]
  rw [show n &&& 3 = n % 4 from Nat.and_two_pow_sub_one_eq_mod n 2]
  exact IntWalk.i64_in _ (by omega)
theorem shri (a k : Nat) (hk : k ≤ 63) : ((a : Int)).fdiv (2 ^ (min (k : Int).toNat IntKind.i64.bits)) = ((a / 2 ^ k : Nat) : Int) := by
  rw [show min ((k : Int)).toNat IntKind.i64.bits = k by simp [IntKind.bits]; omega]
  exact fdiv_pow a k
/-- A store into raw cells, of which so many are known. -/
theorem cells_sec {cs : List Value} {o k : Nat} {y : List UInt8} {s y' : List UInt8} (ho : o + 256 ≤ cs.length) (hy : y.length = 256) (hs : s.length = 128) (hk : k < 2) (he : y.take (k * 128) ++ s ++ y.drop (k * 128 + 128) = y') :
    (cs.take o ++ u8s y ++ cs.drop (o + 256)).take (o + k * 128) ++ u8s s ++ (cs.take o ++ u8s y ++ cs.drop (o + 256)).drop (o + k * 128 + 128) = cs.take o ++ u8s y' ++ cs.drop (o + 256) := by
  subst he
  have hlo : (cs.take o).length = o := by rw [List.length_take]; omega
  have e : cs.take o ++ u8s y ++ cs.drop (o + 256) = cs.take o ++ (u8s (y.take (k * 128)) ++ (u8s ((y.drop (k * 128)).take 128) ++ (u8s (y.drop (k * 128 + 128)) ++ cs.drop (o + 256)))) := by
    conv => lhs; rw [← List.take_append_drop (k * 128) y]
    conv => lhs; rw [← List.take_append_drop 128 (y.drop (k * 128))]
    rw [List.drop_drop]
    simp only [u8s_app, List.append_assoc]
  have l1 : (u8s (y.take (k * 128))).length = k * 128 := by rw [u8s_len, List.length_take]; omega
  have l2 : (u8s ((y.drop (k * 128)).take 128)).length = 128 := by rw [u8s_len, List.length_take, List.length_drop]; omega
  rw [e, List.take_append, hlo, List.take_of_length_le (l := cs.take o) (by omega), Nat.add_sub_cancel_left, List.take_left' l1]
  rw [Nat.add_assoc, ← List.drop_drop, List.drop_left' hlo, ← List.drop_drop, List.drop_left' l1, List.drop_left' l2]
  simp only [u8s_app, List.append_assoc]
end Go.Q
namespace Go.Q
theorem and3m {m : Int} (h0 : 0 ≤ m) (h : m ≤ 15) : IntKind.i64.wrap ((BitVec.ofInt IntKind.i64.bits m &&& BitVec.ofInt IntKind.i64.bits 3).toNat : Int) = m % 4 := by
  obtain ⟨k, rfl⟩ := Int.eq_ofNat_of_zero_le h0
  rw [and3i k (by omega)]
  omega
end Go.Q
namespace Go.Q
theorem cells_fit {cs : List Value} {o k : Nat} {y : List UInt8} (ho : o + 256 ≤ cs.length) (hy : y.length = 256) (hk : k < 2) : o + k * 128 + 128 ≤ (cs.take o ++ u8s y ++ cs.drop (o + 256)).length := by
  rw [List.length_append, List.length_append, List.length_take, List.length_drop, u8s_len, hy]
  omega
end Go.Q
namespace Go.Q
theorem bit_yes {n : Nat} (h : (n : Int) = 1) : n = 1 := by exact_mod_cast h
theorem bit_no {n : Nat} (h : ¬ (n : Int) = 1) : ¬ n = 1 := by exact_mod_cast h
end Go.Q
namespace Go.Q
open Go.RowKit
theorem noSB_ok : ArOk noSB.ar := ⟨rfl, fun a ha => by simp only [noSB] at ha; rw [List.eq_of_mem_replicate ha]; exact List.length_replicate⟩
theorem area_all {a : AR} (h : a.img.length = 256) : ((areaV a).drop 0).take 258 = areaV a := by rw [List.drop_zero, List.take_of_length_le (by rw [areaV_len h]; omega)]
theorem area_img {a : AR} (h : a.img.length = 256) : ((areaV a).drop 0).take 256 = u8s a.img := by rw [List.drop_zero, areaV, List.take_left' (by rw [u8s_len, h])]
theorem areaV_one (a : AR) : ∀ v ∈ areaV a, v.oneCell' = true := by
  intro v hv
  rcases List.mem_append.1 hv with h | h
  · exact u8s_one h
  · simp only [List.mem_cons, List.not_mem_nil, or_false] at h
    rcases h with rfl | rfl <;> rfl
theorem cStore_rd {t1 tS b : Nat} {s : SS} {w : World} {F : List Nat} (h : (cStore t1 tS b s).p w F) : ∃ A n c, Blk w b tS (sbV ⟨A, n, c, s.ar⟩) ∧ RdS w 256 A n c (s.pl.flatMap u8s) := by
  obtain ⟨⟨A, n, c⟩, F1, F2, h1, h2, _, _⟩ := h
  exact ⟨A, n, c, h2.1, h1.1.rd⟩
theorem row_len {s : SS} {w : World} {A : Option Addr} {n c : Nat} (ok : SOk s) (h : RdS w 256 A n c (s.pl.flatMap u8s)) : s.pl.length = n := by
  have h1 := h.len
  rw [flat_lenL ok.szP] at h1
  omega
theorem plAt_eq {s : SS} {k : Nat} {x : List UInt8} (h : s.pl[k]? = some x) : plAt s (k : Int) = x := by simp [plAt, List.getD, h]
theorem arAt_eq {s : SS} {k : Nat} {a : AR} (h : s.ar[k]? = some a) : arAt s (k : Int) = a := by simp [arAt, List.getD, h]
theorem busyA_drop {n id : Int} : ∀ {l : List AR} {i k : Nat} {a : AR}, l[i]? = some a → busyA n id (k + i) (l.drop i) = ((a.out && (decide (((k + i : Nat) : Int) = n) || decide (a.id = id))) || busyA n id (k + (i + 1)) (l.drop (i + 1))) := by
  intro l i k a h
  have hi : i < l.length := (List.getElem?_eq_some_iff.1 h).1
  rw [List.drop_eq_getElem_cons hi, busyA]
  rw [List.getElem?_eq_getElem hi] at h
  cases h
  rfl
theorem busyA_end {n id : Int} {l : List AR} {k i : Nat} (h : l.length ≤ i) : busyA n id k (l.drop i) = false := by rw [List.drop_eq_nil_of_le h]; rfl
theorem busyA_yes {n id : Int} {l : List AR} {i : Nat} {a : AR} (h : l[i]? = some a) (hu : a.out = true) (hb : (i : Int) = n ∨ a.id = id) : busyA n id i (l.drop i) = true := by
  have := busyA_drop (n := n) (id := id) (k := 0) h
  simp only [Nat.zero_add] at this
  rw [this, hu]
  rcases hb with hb | hb <;> simp [hb]
theorem busyA_no {n id : Int} {l : List AR} {i : Nat} {a : AR} (h : l[i]? = some a) (hb : a.out = false ∨ (¬ (i : Int) = n ∧ ¬ a.id = id)) : busyA n id i (l.drop i) = busyA n id (i + 1) (l.drop (i + 1)) := by
  have := busyA_drop (n := n) (id := id) (k := 0) h
  simp only [Nat.zero_add] at this
  rw [this]
  rcases hb with hb | ⟨h1, h2⟩
  · simp [hb]
  · simp [h1, h2]
theorem sWrite_1 {s : SS} {n id : Int} {p : PG} {m : Int} (h : ¬ (nodeP n = true ∧ thereP s id = true ∧ wholeP m = true)) : sWrite s n id p m = (s, 1) := by rw [sWrite, if_pos h]
theorem sWrite_e {s : SS} {n id : Int} {p : PG} {m : Int} (h : nodeP n = true ∧ thereP s id = true ∧ wholeP m = true) (he : (encS id p).2 ≠ 0) : sWrite s n id p m = (s, (encS id p).2) := by rw [sWrite, if_neg (by simpa using h), if_pos he]
theorem sWrite_b {s : SS} {n id : Int} {p : PG} {m : Int} (h : nodeP n = true ∧ thereP s id = true ∧ wholeP m = true) (he : (encS id p).2 = 0) (hb : busyS s n id = true) : sWrite s n id p m = (s, 13) := by rw [sWrite, if_neg (by simpa using h), if_neg (by simp [he]), if_pos hb]
theorem sWrite_l {s : SS} {n id : Int} {p : PG} {m : Int} (h : nodeP n = true ∧ thereP s id = true ∧ wholeP m = true) (he : (encS id p).2 = 0) (hb : busyS s n id = false) (hl : p.lsn ≤ (stampS (plAt s id)).1) : sWrite s n id p m = (s, 13) := by
  rw [sWrite, if_neg (by simpa using h), if_neg (by simp [he]), if_neg (by simp [hb]), if_pos hl]
theorem sWrite_yes {s : SS} {n id : Int} {p : PG} {m : Int} (h : nodeP n = true ∧ thereP s id = true ∧ wholeP m = true) (he : (encS id p).2 = 0) (hb : busyS s n id = false) (hl : ¬ p.lsn ≤ (stampS (plAt s id)).1) :
    sWrite s n id p m = if m = 15 then (⟨s.pl.set id.toNat (layB (plAt s id) (encS id p).1 (m.toNat / 4)), s.ar.set n.toNat ⟨layB (arAt s n).img (encS id p).1 m.toNat, (arAt s n).out, (arAt s n).id⟩⟩, 0)
      else (⟨s.pl.set id.toNat (layB (plAt s id) (encS id p).1 (m.toNat / 4)), s.ar.set n.toNat ⟨layB (arAt s n).img (encS id p).1 m.toNat, true, id⟩⟩, 9) := by
  rw [sWrite, if_neg (by simpa using h), if_neg (by simp [he]), if_neg (by simp [hb]), if_neg hl]
theorem SOk.upd {s : SS} (ok : SOk s) {k j : Nat} {y : List UInt8} {a : AR} (hy : y.length = 256) (ha : a.img.length = 256 ∧ -9223372036854775808 ≤ a.id ∧ a.id ≤ 9223372036854775807 ∧ (a.out = true → 0 ≤ a.id ∧ a.id < s.pl.length)) : SOk ⟨s.pl.set k y, s.ar.set j a⟩ :=
  ⟨by simpa using ok.pl1, by simpa using ok.pl2, fun x hx => by
    rcases List.mem_or_eq_of_mem_set hx with h | rfl
    · exact ok.plen x h
    · exact hy, by simpa using ok.ar, fun b hb => by
    rcases List.mem_or_eq_of_mem_set hb with h | rfl
    · simpa using ok.alen b h
    · simpa using ha⟩
theorem SOk.updP {s : SS} (ok : SOk s) {k : Nat} {y : List UInt8} (hy : y.length = 256) : SOk ⟨s.pl.set k y, s.ar⟩ :=
  ⟨by simpa using ok.pl1, by simpa using ok.pl2, fun x hx => by
    rcases List.mem_or_eq_of_mem_set hx with h | rfl
    · exact ok.plen x h
    · exact hy, ok.ar, fun b hb => by simpa using ok.alen b hb⟩
theorem SOk.updA {s : SS} (ok : SOk s) {j : Nat} {a : AR} (ha : a.img.length = 256 ∧ -9223372036854775808 ≤ a.id ∧ a.id ≤ 9223372036854775807 ∧ (a.out = true → 0 ≤ a.id ∧ a.id < s.pl.length)) : SOk ⟨s.pl, s.ar.set j a⟩ :=
  ⟨ok.pl1, ok.pl2, ok.plen, by simpa using ok.ar, fun b hb => by
    rcases List.mem_or_eq_of_mem_set hb with h | rfl
    · exact ok.alen b h
    · exact ha⟩
theorem SOk.pl_at {s : SS} (ok : SOk s) {id : Int} (h : thereP s id = true) : ∃ (k : Nat) (x : List UInt8), id = (k : Int) ∧ k < s.pl.length ∧ s.pl[k]? = some x ∧ x.length = 256 ∧ plAt s id = x := by
  rw [thereP_iff] at h
  obtain ⟨k, rfl⟩ := Int.eq_ofNat_of_zero_le h.1
  have hk : k < s.pl.length := by omega
  have hx : s.pl[k]? = some s.pl[k] := List.getElem?_eq_getElem hk
  exact ⟨k, s.pl[k], rfl, hk, hx, ok.plen _ (List.mem_of_getElem? hx), plAt_eq hx⟩
theorem SOk.ar_at {s : SS} (ok : SOk s) {n : Int} (h : nodeP n = true) : ∃ (j : Nat) (a : AR), n = (j : Int) ∧ j < 8 ∧ s.ar[j]? = some a ∧ arAt s n = a ∧ a ∈ s.ar := by
  rw [nodeP_iff] at h
  obtain ⟨j, rfl⟩ := Int.eq_ofNat_of_zero_le h.1
  have hj : j < s.ar.length := by rw [ok.ar]; omega
  have ha : s.ar[j]? = some s.ar[j] := List.getElem?_eq_getElem hj
  exact ⟨j, s.ar[j], rfl, by omega, ha, arAt_eq ha, List.getElem_mem hj⟩
theorem sWrite_ok {s : SS} (ok : SOk s) {n id : Int} {p : PG} (hp : POk p) (m : Int) : SOk (sWrite s n id p m).1 := by
  by_cases h : nodeP n = true ∧ thereP s id = true ∧ wholeP m = true
  · by_cases he : (encS id p).2 = 0
    · cases hb : busyS s n id
      · by_cases hl : p.lsn ≤ (stampS (plAt s id)).1
        · rw [sWrite_l h he hb hl]; exact ok
        · rw [sWrite_yes h he hb hl]
          obtain ⟨_, hr, hen⟩ := encS_ok he
          have him := imageS_len (id := id.toNat) hp.len hr
          obtain ⟨k, x, rfl, hk, hx, hxl, hpx⟩ := ok.pl_at h.2.1
          obtain ⟨j, a, rfl, hj, ha, haa, ham⟩ := ok.ar_at h.1
          obtain ⟨a1, a2, a3, a4⟩ := ok.alen a ham
          have hk2 := ok.pl2
          rw [hen, hpx, haa]
          split
          · exact ok.upd (layB_len hxl him) ⟨layB_len a1 him, a2, a3, a4⟩
          · exact ok.upd (layB_len hxl him) ⟨layB_len a1 him, by simp only; omega, by simp only; omega, fun _ => ⟨by simp only; omega, by simp only; omega⟩⟩
      · rw [sWrite_b h he hb]; exact ok
    · rw [sWrite_e h he]; exact ok
  · rw [sWrite_1 h]; exact ok
end Go.Q
namespace Go.Q
theorem sRead_ok {s : SS} (ok : SOk s) (id : Int) : POk (sRead s id).1 := by
  unfold sRead
  split
  · exact decS_ok _ _
  · exact noPg_ok
end Go.Q
namespace Go.Q
open Go.RowKit
theorem Chk.belowS (c : Chk) {w w' : World} {F : List Nat} (h : c.p w F) (hb : Below w.heap.size w w') : c.p w' F := c.loc h fun k hk => hb.block k (c.inb h k hk)
end Go.Q
namespace Go.Q
theorem secS_2 {id : Int} {p : PG} : (secS id p).2 = (encS id p).2 := by
  unfold secS
  split
  · rename_i h; exact h.symm
  · rfl
theorem secS_noPg {i : Nat} (h : i < 32) : (secS (i : Int) noPg).1 = imageS i noPg := by
  have h1 : numberP (i : Int) = true := numberP_iff.2 (by omega)
  have h2 : rightP noPg = true := by decide
  have h3 : encS (i : Int) noPg = (imageS i noPg, 0) := by rw [encS_yes h1 h2]; rfl
  rw [secS_yes (by rw [h3]), h3]
theorem sNew_ok (pages : Int) : SOk (sNew pages) := by
  have h1 : 1 ≤ numPl pages := by unfold numPl; omega
  have h2 : numPl pages ≤ 32 := by unfold numPl; omega
  refine ⟨by simpa [sNew] using h1, by simpa [sNew] using h2, fun x hx => ?_, List.length_replicate, fun a ha => ?_⟩
  · simp only [sNew, List.mem_map, List.mem_range] at hx
    obtain ⟨i, _, rfl⟩ := hx
    exact imageS_len rfl (by decide)
  · simp only [sNew] at ha
    rw [List.eq_of_mem_replicate ha]
    exact ⟨List.length_replicate, by simp [noAr], by simp [noAr], fun h => by cases h⟩
end Go.Q
namespace Go.Q
theorem sb_lt {j k : Nat} (hj : j < 8) (hk : k < 258) : 1 + j * 258 + k < 2065 := by omega
end Go.Q
namespace Go.Q
theorem SOk.pl_id {s : SS} (ok : SOk s) {a : AR} (ha : a ∈ s.ar) (hu : a.out = true) : ∃ x : List UInt8, s.pl[a.id.toNat]? = some x ∧ x.length = 256 ∧ plAt s a.id = x ∧ 0 ≤ a.id ∧ a.id < s.pl.length ∧ a.id.toNat < s.pl.length := by
  obtain ⟨_, _, _, h⟩ := ok.alen a ha
  obtain ⟨h0, h1⟩ := h hu
  have hk : a.id.toNat < s.pl.length := by omega
  have hx : s.pl[a.id.toNat]? = some s.pl[a.id.toNat] := List.getElem?_eq_getElem hk
  exact ⟨_, hx, ok.plen _ (List.mem_of_getElem? hx), by simp [plAt, List.getD, hx], h0, h1, hk⟩
theorem sMend_1 {s : SS} {n m : Int} (h : ¬ (nodeP n = true ∧ 0 ≤ m ∧ m ≤ 3)) : sMend s n m = (s, 1) := by rw [sMend, if_pos h]
theorem sMend_n {s : SS} {n m : Int} {a : AR} (h : nodeP n = true ∧ 0 ≤ m ∧ m ≤ 3) (ha : arAt s n = a) (hn : ¬ (a.out = true ∧ tornS (plAt s a.id) = true)) : sMend s n m = (⟨s.pl, s.ar.set n.toNat ⟨a.img, false, a.id⟩⟩, 0) := by
  subst ha
  rw [sMend, if_neg (by simpa using h)]
  exact if_neg hn
theorem sMend_y {s : SS} {n m : Int} {a : AR} {x : List UInt8} (h : nodeP n = true ∧ 0 ≤ m ∧ m ≤ 3) (ha : arAt s n = a) (hu : a.out = true) (hx : plAt s a.id = x) (ht : tornS x = true) :
    sMend s n m = if m ≠ 3 then (⟨s.pl.set a.id.toNat (layB x a.img m.toNat), s.ar⟩, 9) else (⟨s.pl.set a.id.toNat (layB x a.img m.toNat), s.ar.set n.toNat ⟨a.img, false, a.id⟩⟩, 0) := by
  subst ha hx
  rw [sMend, if_neg (by simpa using h)]
  exact if_pos ⟨hu, ht⟩
theorem sMend_ok {s : SS} (ok : SOk s) (n m : Int) : SOk (sMend s n m).1 := by
  by_cases h : nodeP n = true ∧ 0 ≤ m ∧ m ≤ 3
  · obtain ⟨j, a, rfl, hj, ha, haa, ham⟩ := ok.ar_at h.1
    obtain ⟨a1, a2, a3, a4⟩ := ok.alen a ham
    by_cases hu : a.out = true ∧ tornS (plAt s a.id) = true
    · obtain ⟨x, hx, hxl, hxe, _⟩ := ok.pl_id ham hu.1
      rw [sMend_y h haa hu.1 hxe (by rw [← hxe]; exact hu.2)]
      split
      · exact ok.updP (layB_len hxl a1)
      · exact ok.upd (layB_len hxl a1) ⟨a1, a2, a3, fun h => by cases h⟩
    · rw [sMend_n h haa hu]
      exact ok.updA ⟨a1, a2, a3, fun h => by cases h⟩
  · rw [sMend_1 h]
    exact ok
end Go.Q
