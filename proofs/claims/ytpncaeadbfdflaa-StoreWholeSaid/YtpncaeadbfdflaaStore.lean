/- Plain specification of layer 10: the store, its places and areas as bytes; and how they lie in memory. Conditions: none. -/
import Derived.Test.YtpncaeadbfdflaaPage3
import Derived.Test.YtpncaeadbfdflaaCore13
set_option linter.unusedSimpArgs false
set_option linter.unusedVariables false
namespace Go.Q
open Go.RowKit
structure AR where
  img : List UInt8
  out : Bool
  id : Int
structure SS where
  pl : List (List UInt8)
  ar : List AR
structure SOk (s : SS) : Prop where
  pl1 : 1 ≤ s.pl.length
  pl2 : s.pl.length ≤ 32
  plen : ∀ x ∈ s.pl, x.length = 256
  ar : s.ar.length = 8
  alen : ∀ a ∈ s.ar, a.img.length = 256 ∧ -9223372036854775808 ≤ a.id ∧ a.id ≤ 9223372036854775807 ∧ (a.out = true → 0 ≤ a.id ∧ a.id < s.pl.length)
def zeroP : List UInt8 := List.replicate 256 0
def noAr : AR := ⟨zeroP, false, 0⟩
def layB (x img : List UInt8) (bits : Nat) : List UInt8 := (if bits % 2 = 1 then img.take 128 else x.take 128) ++ (if bits / 2 % 2 = 1 then img.drop 128 else x.drop 128)
theorem layB_len {x img : List UInt8} {bits : Nat} (hx : x.length = 256) (hi : img.length = 256) : (layB x img bits).length = 256 := by
  unfold layB
  rw [List.length_append]
  split <;> split <;> simp only [List.length_take, List.length_drop] <;> omega
def layP (x img : List UInt8) (bits k : Nat) : List UInt8 := (if 0 < k ∧ bits % 2 = 1 then img.take 128 else x.take 128) ++ (if 1 < k ∧ bits / 2 % 2 = 1 then img.drop 128 else x.drop 128)
theorem layP_len {x img : List UInt8} {bits k : Nat} (hx : x.length = 256) (hi : img.length = 256) : (layP x img bits k).length = 256 := by
  unfold layP
  rw [List.length_append]
  split <;> split <;> simp only [List.length_take, List.length_drop] <;> omega
theorem layP_0 (x img : List UInt8) (bits : Nat) : layP x img bits 0 = x := by simp [layP]
theorem layP_2 (x img : List UInt8) (bits : Nat) : layP x img bits 2 = layB x img bits := by simp [layP, layB]
theorem layP_no {x img : List UInt8} {bits k : Nat} (hk : k < 2) (h : ¬ bits / 2 ^ k % 2 = 1) : layP x img bits (k + 1) = layP x img bits k := by
  unfold layP
  have : k = 0 ∨ k = 1 := by omega
  rcases this with rfl | rfl
  · simp at h; simp [h]
  · simp at h; simp [h]
theorem layP_yes {x img : List UInt8} {bits k : Nat} (hx : x.length = 256) (hi : img.length = 256) (hk : k < 2) (h : bits / 2 ^ k % 2 = 1) :
    (layP x img bits k).take (k * 128) ++ (img.drop (k * 128)).take 128 ++ (layP x img bits k).drop (k * 128 + 128) = layP x img bits (k + 1) := by
  have h2 : k = 0 ∨ k = 1 := by omega
  rcases h2 with rfl | rfl
  · simp at h
    simp only [layP, h, Nat.zero_mul, List.take_zero, List.drop_zero, List.nil_append, Nat.zero_add]
    simp only [Nat.lt_irrefl, false_and, if_false, true_and, Nat.zero_lt_one, if_true]
    rw [List.drop_left' (by rw [List.length_take]; omega)]
    simp
  · simp at h
    have e1 : layP x img bits 1 = (if bits % 2 = 1 then img.take 128 else x.take 128) ++ x.drop 128 := by simp [layP]
    have e2 : layP x img bits 2 = (if bits % 2 = 1 then img.take 128 else x.take 128) ++ img.drop 128 := by simp [layP, h]
    have hA : (if bits % 2 = 1 then img.take 128 else x.take 128).length = 128 := by split <;> (rw [List.length_take]; omega)
    generalize (if bits % 2 = 1 then img.take 128 else x.take 128) = A at e1 e2 hA
    rw [e1, e2, Nat.one_mul, List.take_left' hA, List.drop_eq_nil_of_le (as := A ++ x.drop 128) (by simp only [List.length_append, List.length_drop]; omega), List.append_nil,
      List.take_of_length_le (l := img.drop 128) (by rw [List.length_drop]; omega)]
def nodeP (n : Int) : Bool := decide (0 ≤ n ∧ n < 8)
def wholeP (m : Int) : Bool := decide (0 ≤ m ∧ m ≤ 15 ∧ (m < 4 ∨ m % 4 = 3))
def thereP (s : SS) (id : Int) : Bool := decide (0 ≤ id ∧ id < s.pl.length)
theorem nodeP_iff {n : Int} : nodeP n = true ↔ 0 ≤ n ∧ n < 8 := by simp [nodeP]
theorem thereP_iff {s : SS} {id : Int} : thereP s id = true ↔ 0 ≤ id ∧ id < s.pl.length := by simp [thereP]
theorem wholeP_iff {m : Int} : wholeP m = true ↔ 0 ≤ m ∧ m ≤ 15 ∧ (m < 4 ∨ m % 4 = 3) := by simp [wholeP]
def busyA (n id : Int) : Nat → List AR → Bool
  | _, [] => false
  | k, a :: l => (a.out && (decide ((k : Int) = n) || decide (a.id = id))) || busyA n id (k + 1) l
def busyS (s : SS) (n id : Int) : Bool := busyA n id 0 s.ar
def secS (id : Int) (p : PG) : List UInt8 × Int := if (encS id p).2 = 0 then ((encS id p).1, 0) else (zeroP, (encS id p).2)
def plAt (s : SS) (id : Int) : List UInt8 := s.pl.getD id.toNat []
def arAt (s : SS) (n : Int) : AR := s.ar.getD n.toNat noAr
def sWrite (s : SS) (n id : Int) (p : PG) (mask : Int) : SS × Int :=
  if ¬ (nodeP n = true ∧ thereP s id = true ∧ wholeP mask = true) then (s, 1)
  else if (encS id p).2 ≠ 0 then (s, (encS id p).2)
  else if busyS s n id = true then (s, 13)
  else if p.lsn ≤ (stampS (plAt s id)).1 then (s, 13)
  else
    let img := (encS id p).1
    let pl := s.pl.set id.toNat (layB (plAt s id) img (mask.toNat / 4))
    let a := arAt s n
    if mask = 15 then (⟨pl, s.ar.set n.toNat ⟨layB a.img img mask.toNat, a.out, a.id⟩⟩, 0)
    else (⟨pl, s.ar.set n.toNat ⟨layB a.img img mask.toNat, true, id⟩⟩, 9)
def sMend (s : SS) (n mask : Int) : SS × Int :=
  if ¬ (nodeP n = true ∧ 0 ≤ mask ∧ mask ≤ 3) then (s, 1)
  else
    let a := arAt s n
    if a.out = true ∧ tornS (plAt s a.id) = true then
      let pl := s.pl.set a.id.toNat (layB (plAt s a.id) a.img mask.toNat)
      if mask ≠ 3 then (⟨pl, s.ar⟩, 9) else (⟨pl, s.ar.set n.toNat ⟨a.img, false, a.id⟩⟩, 0)
    else (⟨s.pl, s.ar.set n.toNat ⟨a.img, false, a.id⟩⟩, 0)
def sRead (s : SS) (id : Int) : PG × Int := if thereP s id = true then decS id (plAt s id) else (noPg, 1)
def sImage (s : SS) (id : Int) : List UInt8 × Int := if thereP s id = true then (plAt s id, 0) else ([], 1)
def sOut (s : SS) (n : Int) : Bool := nodeP n && (arAt s n).out
def numPl (pages : Int) : Nat := (max 1 (min pages 32)).toNat
def sNew (pages : Int) : SS := ⟨(List.range (numPl pages)).map fun i => imageS i noPg, List.replicate 8 noAr⟩
/-! ### cells -/
def areaV (a : AR) : List Value := u8s a.img ++ [.bool a.out, .int .i64 a.id]
def areasV (l : List AR) : List Value := l.flatMap areaV
def cStore (t1 tS b : Nat) (s : SS) : Chk := cEx fun x : Option Addr × Nat × Nat => cSep (cOwn t1 256 x.1 x.2.1 x.2.2 (s.pl.flatMap u8s)) (cBlk b tS (.slice x.1 x.2.1 x.2.2 :: areasV s.ar))
end Go.Q
