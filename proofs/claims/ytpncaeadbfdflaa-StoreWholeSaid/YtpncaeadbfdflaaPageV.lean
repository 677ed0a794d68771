/- Pages as cells of memory. Conditions: none. -/
import Derived.Test.YtpncaeadbfdflaaPage
import Derived.Test.YtpncaeadbfdflaaCore11
set_option linter.unusedSimpArgs false
set_option linter.unusedVariables false
namespace Go.Q
open Go.RowKit
theorem cellV_len (c : CL) : (cellV c).length = 2 := rfl
theorem cellsV_len' (l : List CL) : (cellsV l).length = 2 * l.length := by
  induction l with
  | nil => rfl
  | cons c l ih =>
    simp only [cellsV, List.flatMap_cons, List.length_append, cellV_len, List.length_cons] at ih ⊢
    omega
theorem cellsV_len {l : List CL} (h : l.length = 8) : (cellsV l).length = 16 := by rw [cellsV_len', h]
theorem pgV_len {p : PG} (h : p.cells.length = 8) : (pgV p).length = 17 := by simp only [pgV, List.length_cons, cellsV_len h]
theorem pgV_all {p : PG} (h : p.cells.length = 8) : ((pgV p).drop 0).take 17 = pgV p := by rw [List.drop_zero, List.take_of_length_le (by rw [pgV_len h]; omega)]
theorem pgV_cells {p : PG} (h : p.cells.length = 8) : ((pgV p).drop 1).take 16 = cellsV p.cells := by
  rw [pgV, List.drop_succ_cons, List.drop_zero, List.take_of_length_le (by rw [cellsV_len h]; omega)]
theorem cellsV_get {l : List CL} {i : Nat} {c : CL} (h : l[i]? = some c) : ((cellsV l).drop (i * 2)).take 2 = cellV c := flat_drop cellV cellV_len l i c h
theorem cellV_one (c : CL) : ∀ v ∈ cellV c, v.oneCell' = true := by
  intro v hv
  simp only [cellV, List.mem_cons, List.not_mem_nil, or_false] at hv
  rcases hv with rfl | rfl <;> rfl
theorem cellsV_one (l : List CL) : ∀ v ∈ cellsV l, v.oneCell' = true := by
  intro v hv
  simp only [cellsV, List.mem_flatMap] at hv
  obtain ⟨c, _, hc⟩ := hv
  exact cellV_one c v hc
theorem pgV_one (p : PG) : ∀ v ∈ pgV p, v.oneCell' = true := by
  intro v hv
  rcases List.mem_cons.1 hv with rfl | hv
  · rfl
  · exact cellsV_one _ v hv
theorem flat_set {α : Type} (g : α → List Value) {sz : Nat} (hs : ∀ a, (g a).length = sz) (b : α) : ∀ (l : List α) (i : Nat), i < l.length → (l.flatMap g).take (i * sz) ++ g b ++ (l.flatMap g).drop (i * sz + sz) = (l.set i b).flatMap g
  | [], i, h => by simp at h
  | a :: l, 0, _ => by
    simp only [List.flatMap_cons, Nat.zero_mul, List.take_zero, List.nil_append, Nat.zero_add, List.set_cons_zero]
    rw [List.drop_left' (hs a)]
  | a :: l, i + 1, h => by
    have ih := flat_set g hs b l i (by simpa using h)
    simp only [List.flatMap_cons, List.set_cons_succ]
    rw [← ih, Nat.succ_mul, show i * sz + sz = sz + i * sz by omega, show sz + i * sz + sz = sz + (i * sz + sz) by omega]
    rw [← List.drop_drop, List.drop_left' (hs a), List.take_append, hs a, List.take_of_length_le (by rw [hs a]; omega), show sz + i * sz - sz = i * sz by omega]
    simp only [List.append_assoc, Nat.add_comm sz]
theorem pgV_set {p : PG} {i : Nat} (c : CL) (h : p.cells.length = 8) (hi : i < 8) : (pgV p).take (1 + i * 2) ++ cellV c ++ (pgV p).drop (1 + i * 2 + 2) = pgV ⟨p.lsn, p.cells.set i c⟩ := by
  have := flat_set cellV cellV_len c p.cells i (by omega)
  simp only [pgV]
  rw [show 1 + i * 2 = (i * 2) + 1 by omega, show i * 2 + 1 + 2 = (i * 2 + 2) + 1 by omega, List.take_succ_cons, List.drop_succ_cons]
  simp only [cellsV, List.cons_append]
  rw [this]
theorem POk.set {p : PG} (h : POk p) (i : Nat) {c : CL} (hc : c.2.length ≤ 9223372036854775807) : POk ⟨p.lsn, p.cells.set i c⟩ :=
  ⟨by simp [h.len], h.lsn, fun d hd => by
    rcases List.mem_or_eq_of_mem_set hd with h1 | rfl
    · exact h.val d h1
    · exact hc⟩
theorem POk.setLsn {p : PG} (h : POk p) {n : Nat} (hn : n < 18446744073709551616) : POk ⟨n, p.cells⟩ := ⟨h.len, hn, h.val⟩
theorem rightP_no {p : PG} {i : Nat} {c : CL} (h : p.cells[i]? = some c) (hc : cellOk c = false) : rightP p = false := by
  have hm := List.mem_of_getElem? h
  cases hr : rightP p
  · rfl
  · simp only [rightP, Bool.and_eq_true, List.all_eq_true] at hr
    rw [hr.1 c hm] at hc
    cases hc
theorem rightP_end {p : PG} {b : Bool} (h : ∀ c ∈ p.cells, cellOk c = true) (hb : b = decide ((p.lsn : Int) ≤ 4611686018427387904)) : b = rightP p := by
  rw [hb, rightP, List.all_eq_true.2 h, Bool.true_and]
  simp only [decide_eq_decide]
  omega
theorem all_snoc {α : Type} {q : α → Prop} {l : List α} {i : Nat} {a : α} (h : l[i]? = some a) (h1 : ∀ x ∈ l.take i, q x) (h2 : q a) : ∀ x ∈ l.take (i + 1), q x := by
  have e : l.take (i + 1) = l.take i ++ [a] := by rw [List.take_add_one, h]; rfl
  rw [e]
  intro x hx
  rcases List.mem_append.1 hx with hx | hx
  · exact h1 x hx
  · simp at hx; subst hx; exact h2
theorem take_all {α : Type} {q : α → Prop} {l : List α} {i : Nat} (h : ∀ x ∈ l.take i, q x) (hi : l.length ≤ i) : ∀ x ∈ l, q x := by rwa [List.take_of_length_le hi] at h
/-! ### equality -/
section
variable {P : Program} {t tc ta tb ts tl : TypeId}
theorem EqV.cell {fs : Array Field} (ht : P.underlying tc = some (.struct fs)) (hp : P.stoodInHeld tc = false) (hfs : fs.toList.map (fun f => (f.name != "_", f.offset, P.underlying f.type)) = [(true, 0, some .bool), (true, 1, some .string)]) (a b : CL) : EqV P 2 tc (.agg ⟨cellV a⟩) (.agg ⟨cellV b⟩) (decide (a = b)) := by
  refine EqV.struct ht hp ?_
  obtain ⟨f1, f2, hf⟩ : ∃ f1 f2, fs.toList = [f1, f2] := by
    have : fs.toList.length = 2 := by simpa using congrArg List.length hfs
    match h : fs.toList with
    | [f1, f2] => exact ⟨f1, f2, rfl⟩
    | [] | [_] | _ :: _ :: _ :: _ => simp [h] at this
  rw [hf] at hfs ⊢
  simp only [List.map_cons, List.map_nil, List.cons.injEq, Prod.mk.injEq, and_true] at hfs
  obtain ⟨⟨n1, o1, u1⟩, n2, o2, u2⟩ := hfs
  refine ⟨n1, .bool a.1, .bool b.1, _, _, Part.one u1 rfl (by rw [o1]; rfl), Part.one u1 rfl (by rw [o1]; rfl), EqV.bool u1, ⟨n2, T a.2, T b.2, _, _, Part.one u2 rfl (by rw [o2]; rfl), Part.one u2 rfl (by rw [o2]; rfl), EqV.str u2, rfl, rfl⟩, ?_⟩
  obtain ⟨a1, a2⟩ := a
  obtain ⟨b1, b2⟩ := b
  rw [Bool.eq_iff_iff]
  simp
theorem EqV.page {fs fc : Array Field} (ht : P.underlying t = some (.struct fs)) (hp : P.stoodInHeld t = false) (hfs : fs.toList.map (fun f => (f.name != "_", f.offset, P.underlying f.type)) = [(true, 0, some (.int .u64)), (true, 1, some (.array 8 tc))])
    (hz : fs.toList.map (fun f => (P.info? f.type).map fun i => i.size) = [some 1, some 16])
    (hc : P.underlying tc = some (.struct fc)) (hzc : (P.info? tc).map (fun i => i.size) = some 2) (hpc : P.stoodInHeld tc = false) (hfc : fc.toList.map (fun f => (f.name != "_", f.offset, P.underlying f.type)) = [(true, 0, some .bool), (true, 1, some .string)])
    {a b : PG} (ha : a.cells.length = 8) (hb : b.cells.length = 8) : EqV P 4 t (.agg ⟨pgV a⟩) (.agg ⟨pgV b⟩) (decide (a = b)) := by
  refine EqV.struct ht hp ?_
  obtain ⟨f1, f2, hf⟩ : ∃ f1 f2, fs.toList = [f1, f2] := by
    have : fs.toList.length = 2 := by simpa using congrArg List.length hfs
    match h : fs.toList with
    | [f1, f2] => exact ⟨f1, f2, rfl⟩
    | [] | [_] | _ :: _ :: _ :: _ => simp [h] at this
  rw [hf] at hfs hz ⊢
  simp only [List.map_cons, List.map_nil, List.cons.injEq, Prod.mk.injEq, and_true] at hfs hz
  obtain ⟨⟨n1, o1, u1⟩, n2, o2, u2⟩ := hfs
  have s2 : Sz P f2.type (.array 8 tc) 16 := sz_mk u2 hz.2
  have sc : Sz P tc (.struct fc) 2 := sz_mk hc hzc
  refine ⟨n1, .int .u64 (a.lsn : Int), .int .u64 (b.lsn : Int), _, _, Part.one u1 rfl (by rw [o1]; rfl), Part.one u1 rfl (by rw [o1]; rfl), EqV.mono (EqV.int u1) (by omega), ⟨n2, .agg ⟨cellsV a.cells⟩, .agg ⟨cellsV b.cells⟩, _, _, Part.many s2 rfl (by rw [o2]; exact pgV_cells ha), Part.many s2 rfl (by rw [o2]; exact pgV_cells hb),
    EqV.array (k := 2) cellV u2 sc rfl cellV_len (fun x y => EqV.cell hc hpc hfc x y) ha hb, rfl, rfl⟩, ?_⟩
  obtain ⟨a1, a2⟩ := a
  obtain ⟨b1, b2⟩ := b
  rw [Bool.eq_iff_iff]
  simp
  intro _
  omega
end
end Go.Q
namespace Go.Q
theorem pg_get {p : PG} {i k : Nat} {c : CL} (h : p.cells[i]? = some c) (hk : k < 2) : (pgV p)[1 + i * 2 + k]? = (cellV c)[k]? := by
  have h1 := cellsV_get h
  rw [← h1, List.getElem?_take, if_pos hk, List.getElem?_drop, show 1 + i * 2 + k = (i * 2 + k) + 1 by omega, pgV, List.getElem?_cons_succ]
theorem pg_at0 {p : PG} {i : Nat} {c : CL} (h : p.cells[i]? = some c) : (pgV p)[1 + i * 2 + 0]? = some (.bool c.1) := pg_get h (by omega)
theorem pg_at1 {p : PG} {i : Nat} {c : CL} (h : p.cells[i]? = some c) : (pgV p)[1 + i * 2 + 1]? = some (T c.2) := pg_get h (by omega)
theorem pg_drop {p : PG} {i : Nat} {c : CL} (h : p.cells[i]? = some c) : ((pgV p).drop (1 + i * 2)).take 2 = cellV c := by
  have h1 := cellsV_get h
  rw [← h1, show 1 + i * 2 = (i * 2) + 1 by omega, pgV, List.drop_succ_cons]
/-! ### what the program lays -/
def tw (id : Nat) (L : List UInt8) (z : Nat) (V : List UInt8) (m : Nat) : List UInt8 := be 2 id ++ (L ++ (List.replicate z 0 ++ (V ++ List.replicate m 0)))
theorem tw_len (id : Nat) (L : List UInt8) (z : Nat) (V : List UInt8) (m : Nat) : (tw id L z V m).length = 2 + L.length + z + V.length + m := by
  simp only [tw, List.length_append, be_len, List.length_replicate]
  omega
theorem tw_start (id : Nat) : ((List.replicate 236 (0 : UInt8)).set 0 (UInt8.ofNat (id / 256 % 256))).set 1 (UInt8.ofNat (id % 256)) = tw id [] 8 [] 226 := by
  simp only [tw, be, List.nil_append, List.cons_append]
  rfl
theorem tw_set (id : Nat) (L : List UInt8) (z : Nat) (V : List UInt8) (m : Nat) (b : UInt8) {j : Nat} (hj : j = 2 + L.length) : (tw id L (z + 1) V m).set j b = tw id (L ++ [b]) z V m := by
  subst hj
  unfold tw
  rw [List.set_append_right _ _ (by rw [be_len]; omega), be_len, show 2 + L.length - 2 = L.length by omega, List.set_append_right _ _ (Nat.le_refl _), Nat.sub_self, List.replicate_succ, List.cons_append, List.set_cons_zero]
  simp
theorem tw_set2 (id : Nat) (L : List UInt8) (z : Nat) (V : List UInt8) (m : Nat) (b b' : UInt8) {j : Nat} (hj : j = 2 + L.length) : (tw id (L ++ [b]) z V m).set j b' = tw id (L ++ [b']) z V m := by
  subst hj
  unfold tw
  rw [List.set_append_right _ _ (by rw [be_len]; omega), be_len, show 2 + L.length - 2 = L.length by omega, List.append_assoc, List.set_append_right _ _ (Nat.le_refl _), Nat.sub_self, List.cons_append, List.set_cons_zero]
  simp
theorem tw_copy (id : Nat) (L : List UInt8) (z : Nat) (V : List UInt8) (m : Nat) (v : List UInt8) {j : Nat} (hj : j = 2 + L.length + z + V.length) (hm : v.length ≤ m) :
    (tw id L z V m).take j ++ v.take v.length ++ (tw id L z V m).drop (j + v.length) = tw id L z (V ++ v) (m - v.length) := by
  subst hj
  have e : tw id L z V m = (be 2 id ++ (L ++ (List.replicate z 0 ++ V))) ++ List.replicate m 0 := by simp [tw, List.append_assoc]
  have hl : (be 2 id ++ (L ++ (List.replicate z 0 ++ V))).length = 2 + L.length + z + V.length := by
    simp only [List.length_append, be_len, List.length_replicate]
    omega
  rw [e, ← hl, List.take_left, ← List.drop_drop, List.drop_left, List.take_length, List.drop_replicate]
  simp [tw, List.append_assoc]
theorem tw_end {id : Nat} {l : List CL} {L V : List UInt8} {z m : Nat} (hL : L = lensB l) (hV : V = valsB l) (h8 : l.length = 8) (hz : z = 0) (hm : m = 226 - V.length) : tw id L z V m = tale0 id l := by
  subst hL hV hz hm
  have e : 236 - (core id l).length = 226 - (valsB l).length := by
    simp only [core, List.length_append, be_len, lensB_len, h8]
    omega
  rw [tale0, e]
  simp [tw, core, List.append_assoc]
theorem lensB_snoc {l : List CL} {i : Nat} {c : CL} (h : l[i]? = some c) : lensB (l.take (i + 1)) = lensB (l.take i) ++ [lenB c] := by
  rw [List.take_add_one, h]
  simp [lensB]
theorem valsB_snoc {l : List CL} {i : Nat} {c : CL} (h : l[i]? = some c) : valsB (l.take (i + 1)) = valsB (l.take i) ++ valB c := by
  rw [List.take_add_one, h]
  simp [valsB]
theorem valsB_take_len {p : PG} (hr : rightP p = true) (i : Nat) : (valsB (p.cells.take i)).length ≤ 20 * i := by
  have h1 := valsB_len (l := p.cells.take i) fun c hc => ((rightP_spec hr).1 c (List.mem_of_mem_take hc)).1
  have h2 : (p.cells.take i).length ≤ i := List.length_take_le _ _
  omega
theorem lenB_T {c : CL} (h : c.1 = true) : lenB c = UInt8.ofNat (c.2.length % 256) := by rw [lenB, if_pos h]
theorem lenB_F {c : CL} (h : c.1 = false) : lenB c = 255 := by rw [lenB, if_neg (by simp [h])]
theorem valB_T {c : CL} (h : c.1 = true) : valB c = c.2 := by rw [valB, if_pos h]
theorem valB_F {c : CL} (h : c.1 = false) : valB c = [] := by rw [valB, if_neg (by simp [h])]
theorem u8conv (a : Nat) : IntKind.u8.wrap (a : Int) = ((UInt8.ofNat (a % 256)).toNat : Int) := by
  rw [IntKind.wrap_u8]
  simp
theorem shr8i (a : Nat) : ((a : Int)).fdiv (2 ^ (min (8 : Int).toNat IntKind.i64.bits)) = ((a / 256 : Nat) : Int) := fdiv_pow a 8
end Go.Q
