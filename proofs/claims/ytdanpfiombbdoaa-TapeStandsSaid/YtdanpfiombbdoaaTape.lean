/- A tape, plainly, and as a thing in memory. Conditions: none. -/
import Derived.Test.YtdanpfiombbdoaaCore9
import Derived.Test.YtdanpfiombbdoaaMath1
set_option linter.unusedSimpArgs false
set_option linter.unusedVariables false
namespace Go.Q
structure TS where
  bs : List UInt8
  fast : Nat
  room : Nat
  start : Nat
  deriving DecidableEq
structure TOk (s : TS) : Prop where
  fast : s.fast ≤ s.bs.length
  len : s.bs.length ≤ s.room
  room : s.room ≤ 65536
  start : s.start < 18446744073709551616
def tNew (room : Int) : TS := ⟨[], 0, (max 0 (min room 65536)).toNat, 0⟩
def tAppend (s : TS) (b : List UInt8) : TS × Int := if (b.length : Int) > (s.room : Int) - (s.bs.length : Int) then (s, 7) else (⟨s.bs ++ b, s.fast, s.room, s.start⟩, 0)
def tSync (s : TS) : TS := ⟨s.bs, s.bs.length, s.room, s.start⟩
def tCut (s : TS) (n : Int) : TS × Int := if n < 0 ∨ (s.fast : Int) < n then (s, 1) else (⟨s.bs.drop n.toNat, s.fast - n.toNat, s.room, (s.start + n.toNat) % 18446744073709551616⟩, 0)
def tChop (s : TS) (n : Int) : TS × Int := if n < 0 ∨ (s.bs.length : Int) < n then (s, 1) else (⟨s.bs.take n.toNat, min s.fast n.toNat, s.room, s.start⟩, 0)
def tLeft (s : TS) (keep : Int) : Nat := s.fast + (max 0 (min keep ((s.bs.length : Int) - (s.fast : Int)))).toNat
def tCrash (s : TS) (keep : Int) : TS := ⟨s.bs.take (tLeft s keep), tLeft s keep, s.room, s.start⟩
theorem tNew_ok (room : Int) : TOk (tNew room) := ⟨Nat.le_refl _, Nat.zero_le _, by simp only [tNew]; omega, by simp [tNew]⟩
theorem tAppend_no {s : TS} {b : List UInt8} (h : (b.length : Int) > (s.room : Int) - (s.bs.length : Int)) : tAppend s b = (s, 7) := by rw [tAppend, if_pos h]
theorem tAppend_yes {s : TS} {b : List UInt8} (h : ¬ (b.length : Int) > (s.room : Int) - (s.bs.length : Int)) : tAppend s b = (⟨s.bs ++ b, s.fast, s.room, s.start⟩, 0) := by rw [tAppend, if_neg h]
theorem tAppend_ok {s : TS} (h : TOk s) (b : List UInt8) : TOk (tAppend s b).1 := by
  obtain ⟨h1, h2, h3, h4⟩ := h
  unfold tAppend
  split
  · exact ⟨h1, h2, h3, h4⟩
  · exact ⟨by simp only [List.length_append]; omega, by simp only [List.length_append]; omega, h3, h4⟩
theorem tSync_ok {s : TS} (h : TOk s) : TOk (tSync s) := ⟨Nat.le_refl _, h.len, h.room, h.start⟩
theorem tCut_no {s : TS} {n : Int} (h : n < 0 ∨ (s.fast : Int) < n) : tCut s n = (s, 1) := by rw [tCut, if_pos h]
theorem tCut_yes {s : TS} {n : Nat} (h : n ≤ s.fast) : tCut s (n : Int) = (⟨s.bs.drop n, s.fast - n, s.room, (s.start + n) % 18446744073709551616⟩, 0) := by rw [tCut, if_neg (by omega)]; rfl
theorem tCut_ok {s : TS} (h : TOk s) (n : Int) : TOk (tCut s n).1 := by
  obtain ⟨h1, h2, h3, h4⟩ := h
  unfold tCut
  split
  · exact ⟨h1, h2, h3, h4⟩
  · exact ⟨by simp only [List.length_drop]; omega, by simp only [List.length_drop]; omega, h3, Nat.mod_lt _ (by omega)⟩
theorem tChop_no {s : TS} {n : Int} (h : n < 0 ∨ (s.bs.length : Int) < n) : tChop s n = (s, 1) := by rw [tChop, if_pos h]
theorem tChop_yes {s : TS} {n : Nat} (h : n ≤ s.bs.length) : tChop s (n : Int) = (⟨s.bs.take n, min s.fast n, s.room, s.start⟩, 0) := by rw [tChop, if_neg (by omega)]; rfl
theorem tChop_ok {s : TS} (h : TOk s) (n : Int) : TOk (tChop s n).1 := by
  obtain ⟨h1, h2, h3, h4⟩ := h
  unfold tChop
  split
  · exact ⟨h1, h2, h3, h4⟩
  · exact ⟨by simp only [List.length_take]; omega, by simp only [List.length_take]; omega, h3, h4⟩
theorem tLeft_le {s : TS} (h : TOk s) (keep : Int) : s.fast ≤ tLeft s keep ∧ tLeft s keep ≤ s.bs.length := by
  have := h.fast
  unfold tLeft
  omega
theorem tCrash_ok {s : TS} (h : TOk s) (keep : Int) : TOk (tCrash s keep) := by
  have h1 := tLeft_le h keep
  obtain ⟨_, h2, h3, h4⟩ := h
  exact ⟨by simp only [tCrash, List.length_take]; omega, by simp only [tCrash, List.length_take]; omega, h3, h4⟩
/-- The tape on block b: its struct, and the row of its bytes. -/
def cTape (t5 tT b : Nat) (s : TS) : Chk := cEx fun x : Option Addr × Nat × Nat => cSep (cOwnB t5 x.1 x.2.1 x.2.2 s.bs) (cBlk b tT [.slice x.1 x.2.1 x.2.2, .int .i64 (s.fast : Int), .int .i64 (s.room : Int), .int .u64 (s.start : Int)])
theorem cTape_rd {t5 tT b : Nat} {s : TS} {w : World} {F : List Nat} (h : (cTape t5 tT b s).p w F) :
    ∃ A n c, Blk w b tT [.slice A n c, .int .i64 (s.fast : Int), .int .i64 (s.room : Int), .int .u64 (s.start : Int)] ∧ RdB w A n c s.bs := by
  obtain ⟨⟨A, n, c⟩, F1, F2, ⟨h1, _⟩, ⟨h2, _⟩, _, _⟩ := h
  exact ⟨A, n, c, h2, h1.rd⟩
/-- The document's tape. -/
def cRTape (tT b : Nat) (s : TS) : Chk := cBlk b tT [T s.bs, .int .i64 (s.fast : Int), .int .i64 (s.room : Int), .int .u64 (s.start : Int)]
end Go.Q
namespace Go.Q
open Go.RowKit
theorem Chk.below (c : Chk) {w w' : World} {F : List Nat} (h : c.p w F) (hb : Below w.heap.size w w') : c.p w' F := c.loc h fun k hk => hb.block k (c.inb h k hk)
end Go.Q
namespace Go.Q
theorem tape_room {r m : Nat} (h : r ≤ 65536) : tAppend (tNew (r : Int)) (List.replicate m 0) = if m ≤ r then (⟨List.replicate m 0, 0, r, 0⟩, 0) else (⟨[], 0, r, 0⟩, 7) := by
  have e : tNew (r : Int) = ⟨[], 0, r, 0⟩ := by simp only [tNew, TS.mk.injEq, true_and, and_true]; omega
  rw [e]
  split
  · rw [tAppend_yes (by simp only [List.length_replicate, List.length_nil]; omega)]
    simp
  · rw [tAppend_no (by simp only [List.length_replicate, List.length_nil]; omega)]
end Go.Q
namespace Go.Q
theorem take_snoc {α : Type} {l : List α} {i : Nat} {a : α} (h : l[i]? = some a) : l.take (i + 1) = l.take i ++ [a] := by
  rw [List.take_add_one, h]; rfl
theorem flat_len {k : Nat} {l : List (List UInt8)} (h : ∀ s ∈ l, s.length ≤ k) (i : Nat) : (l.take i).flatten.length ≤ k * i := by
  induction i with
  | zero => simp
  | succ i ih =>
    by_cases hi : i < l.length
    · rw [take_snoc (List.getElem?_eq_getElem hi), List.flatten_append, List.length_append]
      have := h l[i] (List.getElem_mem hi)
      simp only [List.flatten_cons, List.flatten_nil, List.append_nil]
      rw [Nat.mul_add]; omega
    · rw [List.take_of_length_le (by omega)] at ih ⊢
      rw [Nat.mul_add]; omega
end Go.Q
namespace Go.Q
abbrev TOp := Int × Int × List UInt8
def fewS (l : List TOp) : Bool := decide (l.length ≤ 200) && l.all fun o => decide (o.2.2.length ≤ 65537)
def tStep (s : TS) (o : TOp) : TS :=
  if o.1 = 1 then (tAppend s o.2.2).1 else if o.1 = 2 then tSync s else if o.1 = 3 then (tCut s o.2.1).1 else if o.1 = 4 then (tChop s o.2.1).1 else if o.1 = 5 then tCrash s o.2.1 else s
theorem tStep_ok {s : TS} (h : TOk s) (o : TOp) : TOk (tStep s o) := by
  unfold tStep
  split
  · exact tAppend_ok h _
  split
  · exact tSync_ok h
  split
  · exact tCut_ok h _
  split
  · exact tChop_ok h _
  split
  · exact tCrash_ok h _
  · exact h
theorem fewS_no1 {l : List TOp} (h : ¬ l.length ≤ 200) : fewS l = false := by simp [fewS, h]
theorem fewS_no2 {l : List TOp} {o : TOp} (h : o ∈ l) (h2 : ¬ o.2.2.length ≤ 65537) : fewS l = false := by
  rw [fewS, Bool.and_eq_false_iff]
  right
  rw [List.all_eq_false]
  exact ⟨o, h, by simpa using h2⟩
theorem fewS_yes {l : List TOp} (h : l.length ≤ 200) (h2 : ∀ o ∈ l, o.2.2.length ≤ 65537) : fewS l = true := by
  rw [fewS, Bool.and_eq_true]
  exact ⟨by simpa using h, List.all_eq_true.2 fun o ho => by simpa using h2 o ho⟩
theorem fewS_len {l : List TOp} (h : fewS l = true) : l.length ≤ 200 ∧ ∀ o ∈ l, o.2.2.length ≤ 65537 := by
  rw [fewS, Bool.and_eq_true] at h
  exact ⟨by simpa using h.1, fun o ho => by simpa using List.all_eq_true.1 h.2 o ho⟩
end Go.Q
namespace Go.Q
theorem tAppend_fast (s : TS) (b : List UInt8) : (tAppend s b).1.fast = s.fast := by unfold tAppend; split <;> rfl
end Go.Q
