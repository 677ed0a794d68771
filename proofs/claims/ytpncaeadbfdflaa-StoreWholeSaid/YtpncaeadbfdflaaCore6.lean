/- Texts and bytes, make, append, copy. Conditions: none. -/
import Derived.Test.YtpncaeadbfdflaaCore5
set_option linter.unusedSimpArgs false
set_option linter.unusedVariables false
namespace Go.Q
open Go.RowKit

section
variable {P : Program} {ops : Array Oper} {n : Nat} {Q : Exit → Act → World → Prop} {S : World → Prop} {cl : Nat → Cl} {i : Nat} {l : List Nat}
variable {f : Nat → Value} {w w' W w0 : World} {d : Tmp} {dd : Option Tmp} {t t1 t2 t3 e : TypeId} {pos : String} {aft : Array Edge} {g : Option (Nat × Bool)} {x y z : Operand} {v u : Value} {k k' : IntKind} {a r : Int} {p : Addr}
variable {O : List Nat} {L : List Chk} {A B : Option Addr} {m c c2 sz : Nat} {xs news : List Value} {bs cs : List UInt8} {de ds dx : TypeDesc} {zv : Value} {by1 : Nat}

/-! ### bytes to a text -/
theorem run_tostr (h : RdB w A m c bs) (hs : P.underlying t1 = some (.slice e)) (he : P.underlying e = some (.int .u8)) (hd : P.underlying t2 = some .string) (hx : op f x = .slice A m c) :
    (execOp (op f) ⟨dd, .convert t1 t2 x, t, pos, aft, g⟩).run P w = .ok (.value (T bs)) w := by
  have hl := h.length
  subst hl
  have hr : (convert t1 t2 (.slice A bs.length c)).run P w = .ok (T bs) w := by
    cases A with
    | none =>
      have : bs = [] := by
        cases bs with
        | nil => rfl
        | cons b bs =>
          obtain ⟨ad, hA, _⟩ := h.cells (by simp)
          cases hA
      subst this
      exact run_convert_bytes_nil w t1 e hs he _ c t2 hd
    | some ad =>
      refine run_convert_bytes_back w t1 t2 e ad c bs hs he hd fun j hj => ?_
      obtain ⟨ad', hA, hc⟩ := h.cells (by omega)
      cases hA
      exact hc j _ (by simp [u8s_get, List.getElem?_eq_getElem hj, u8])
  simp [execOp, hx, hr]
theorem TF.tostr (h : RdB w A m c bs) (ho : ops[i]? = some ⟨some d, .convert t1 t2 x, t, pos, aft, g⟩) (hc : cl i = .X) (hg : wantF ops f ⟨some d, .convert t1 t2 x, t, pos, aft, g⟩ = true)
    (hs : P.underlying t1 = some (.slice e)) (he : P.underlying e = some (.int .u8)) (hd : P.underlying t2 = some .string) (hx : op f x = .slice A m c) (hk : TF P ops n Q S cl l (upd f d (T bs)) w) : TF P ops n Q S cl (i :: l) f w :=
  TF.x ho hc hg (run_tostr h hs he hd hx) hk
theorem TF.tostrr (h : ∀ w', S w' → RdB w' A m c bs) (ho : ops[i]? = some ⟨some d, .convert t1 t2 x, t, pos, aft, g⟩) (hc : cl i = .R) (hg : wantF ops f ⟨some d, .convert t1 t2 x, t, pos, aft, g⟩ = true)
    (hs : P.underlying t1 = some (.slice e)) (he : P.underlying e = some (.int .u8)) (hd : P.underlying t2 = some .string) (hx : op f x = .slice A m c) (hk : TF P ops n Q S cl l (upd f d (T bs)) w) : TF P ops n Q S cl (i :: l) f w :=
  TF.r ho hc hg (fun w' hw => run_tostr (h w' hw) hs he hd hx) hk
theorem RdS.all {w : World} {sz n c : Nat} {A : Option Addr} {xs : List Value} (h : RdS w sz A n c xs) : ∀ w', Below w.heap.size w w' → RdS w' sz A n c xs := fun _ hb => h.below hb
/-- A text's conversion to a text of another type. -/
theorem pr_sconv {s : List UInt8} (hs : P.underlying t1 = some .string) (hd : P.underlying t2 = some .string) (hx : op f x = T s) : PR P f ⟨dd, .convert t1 t2 x, t, pos, aft, g⟩ (T s) := fun w => by
  simp [execOp, hx, convert, underlying_run hs, underlying_run hd]

/-! ### a text to bytes -/
theorem bytesWorld_below (w : World) (e : TypeId) (s : ByteArray) : Below w.heap.size w (Lib.bytesWorld w e s) :=
  ⟨rfl, rfl, rfl, by rw [Lib.bytesWorld_size]; omega, fun k hk => Lib.bytesWorld_at_old w e s k hk⟩
theorem TF.tobytes {S2 : World → World → Prop} {s : List UInt8} (H : Sat O w0 w L) (ho : ops[i]? = some ⟨some d, .convert t1 t2 x, t, pos, aft, g⟩) (hc : Cx cl i S S2 w) (hg : wantF ops f ⟨some d, .convert t1 t2 x, t, pos, aft, g⟩ = true)
    (hs : P.underlying t1 = some .string) (hd : P.underlying t2 = some (.slice e)) (he : P.underlying e = some (.int .u8)) (hx : op f x = T s) (hl : s.length ≤ maxLen)
    (hk : ∀ A c w', s.length ≤ c → Below w.heap.size w w' → Sat O w0 w' (cOwnB e A s.length c s :: L) → TF P ops n Q (S2 w') cl l (upd f d (.slice A s.length c)) w') : TF P ops n Q S cl (i :: l) f w := by
  have hr := Lib.run_convert_string_bytes (P := P) w t1 t2 e ⟨⟨s⟩⟩ hs hd he
  have hb := bytesWorld_below w e ⟨⟨s⟩⟩
  have hge := grownCap_ge w s.length 0 e
  have hle := grownCap_le_maxLen w s.length 0 e hl
  have hsz : (Lib.bytesCells w e ⟨⟨s⟩⟩).size = grownCap w s.length 0 e := by
    simp [Lib.bytesCells, ba_size]
    omega
  refine TF.cx ho hc hg (v := .slice (some ⟨w.heap.size, 0, none⟩) s.length (grownCap w s.length 0 e)) (w' := Lib.bytesWorld w e ⟨⟨s⟩⟩) ?_ hb (hk _ _ _ hge hb (H.newOwn hb ⟨by simp [u8s_len], hge, hle, .inr ⟨w.heap.size, _, _, rfl, Lib.bytesWorld_at_new w e ⟨⟨s⟩⟩, ?_, .inl (Nat.le_refl _), ?_⟩⟩ ?_))
  · have hr' : (convert t1 t2 (T s)).run P w = .ok (.slice (some ⟨w.heap.size, 0, none⟩) s.length (grownCap w s.length 0 e)) (Lib.bytesWorld w e ⟨⟨s⟩⟩) := hr
    simp only [execOp, hx, Sem.run_bind, hr', Result.andThen_ok]
    rfl
  · rw [hsz]; simp
  · simp only [Lib.bytesCells, Array.toList_append, Array.toList_map, Nat.mul_one]
    rw [List.take_append_of_le_length (by simp)]
    rw [List.take_of_length_le (by simp)]
    rfl
  · intro j hj
    simp [ownF] at hj
    omega

/-! ### make -/
theorem TF.make {S2 : World → World → Prop} {sl sc : Operand} {nl nc : Nat} {kl kc : IntKind} {z1 : Value} (H : Sat O w0 w L) (ho : ops[i]? = some ⟨some d, .makeSlice t1 sl sc, t, pos, aft, g⟩) (hc : Cx cl i S S2 w)
    (hg : wantF ops f ⟨some d, .makeSlice t1 sl sc, t, pos, aft, g⟩ = true) (ht : P.underlying t1 = some (.slice e)) (he : Ty P e de zv sz by1) (hl : op f sl = .int kl (nl : Int)) (hcp : op f sc = .int kc (nc : Int)) (hle : nl ≤ nc) (hby : by1 * nc ≤ 281474976710656) (h63 : nc ≤ maxLen)
    (hk : ∀ b w', w.heap.size ≤ b → Below w.heap.size w w' → Sat O w0 w' (cBlk b e (madeCells zv.cells (nc * sz)).toList :: L) → TF P ops n Q (S2 w') cl l (upd f d (.slice (some ⟨b, 0, none⟩) nl nc)) w') : TF P ops n Q S cl (i :: l) f w := by
  obtain ⟨_, ti, hi, hz, rfl, rfl⟩ := he
  have h63' : (nc : Int) ≤ 9223372036854775807 := by simp [maxLen] at h63; omega
  have hb' : (ti.bytes : Int) * (nc : Int) ≤ 281474976710656 := by
    have h : ((ti.bytes * nc : Nat) : Int) ≤ 281474976710656 := by omega
    rwa [Int.natCast_mul] at h
  have hr := run_make (P := P) w t1 e ti zv ht hi hz kl kc nl nc (by omega) (by omega) hb' h63'
  simp only [Int.toNat_natCast] at hr
  refine TF.cx ho hc hg (w' := w.alloc (.cells (madeCells zv.cells (nc * ti.size)) e)) (v := .slice (some ⟨w.heap.size, 0, none⟩) nl nc) ?_ (below_alloc w _) (hk _ _ (Nat.le_refl _) (below_alloc w _) ?_)
  · simp only [execOp, hl, hcp, Sem.run_bind, hr, Result.andThen_ok]
    rfl
  · exact H.alloc e (madeCells zv.cells (nc * ti.size)).toList
theorem made_u8 (m : Nat) : (madeCells (Value.int .u8 0).cells (m * 1)).toList = u8s (List.replicate m 0) := by
  apply List.ext_getElem?
  intro j
  simp only [madeCells, Value.cells, Nat.mul_one, Array.toList_map, Array.toList_range, List.getElem?_map, u8s, List.map_replicate, List.getElem?_replicate]
  by_cases h : j < m
  · simp [List.getElem?_range, h, u8, Nat.mod_one]
  · simp [List.getElem?_eq_none, h]
theorem Sat.toOwn {b q : Nat} {vs : List Value} (H : Sat O w0 w L) (hq : nth L q = some (cBlk b e vs)) {nl nc : Nat} (hl : vs.length = nc * sz) (hle : nl ≤ nc) (h63 : nc ≤ maxLen) :
    Sat O w0 w (setAt L q (cOwn e sz (some ⟨b, 0, none⟩) nl nc (vs.take (nl * sz)))) :=
  H.upd hq ⟨rfl, rfl, rfl, Nat.le_refl _⟩ fun F hF => ⟨[b], ⟨⟨by rw [List.length_take, hl]; exact Nat.min_eq_left (Nat.mul_le_mul_right _ hle), hle, h63, .inr ⟨b, ⟨vs⟩, (0, 0), rfl, hF.1, by simpa using hl, .inr rfl, by simp⟩⟩, rfl⟩,
    fun j hj => .inl (by rw [hF.2]; exact hj), fun j _ _ => rfl⟩
/-- A part of a block that is known whole, as a slice that is read. -/
theorem Blk.rd {b o m c : Nat} {vs : List Value} (h : Blk w b e vs) (hl : o + m * sz ≤ vs.length) (hmc : m ≤ c) (h63 : c ≤ maxLen) : RdS w sz (some ⟨b, o, none⟩) m c ((vs.drop o).take (m * sz)) :=
  ⟨by rw [List.length_take, List.length_drop]; omega, hmc, h63, fun _ => ⟨_, rfl, h.atN (m * sz)⟩⟩

/-! ### stores of a row -/
theorem run_rowStore (g o : Nat) (t : TypeId) (fz : Nat × Nat) : ∀ (vs : List Value) (i : Nat) (cur : Array Value) (w : World), w.heap[g]? = some (.cells cur t fz) → (cur.size ≤ fz.1 ∨ fz = (0, 0)) → o + i + vs.length ≤ cur.size → (∀ v ∈ vs, v.oneCell' = true) →
    (storeCells ⟨g, o, none⟩ vs i).run P w = .ok () (w.setRow g (cur.toList.take (o + i) ++ vs ++ cur.toList.drop (o + i + vs.length)).toArray)
  | [], i, cur, w, hg, _, _, _ => by
    simp only [storeCells, List.append_nil, List.length_nil, Nat.add_zero, List.take_append_drop, Array.toArray_toList]
    rw [setRow_self w g cur t fz hg]
    rfl
  | v :: rest, i, cur, w, hg, hfz, hl, h1 => by
    have hi : o + i < cur.size := by simp at hl; omega
    have hcell : w.cell? ⟨g, o + i, none⟩ = some cur[o + i] := by simp [World.cell?, hg, hi]
    have hfro : w.frozen? ⟨g, o + i, none⟩ = false := by
      obtain ⟨lo, hi'⟩ := fz
      simp only [World.frozen?, hg, Bool.and_eq_false_iff, decide_eq_false_iff_not]
      rcases hfz with h | h
      · left
        simp only at h
        omega
      · right
        cases h
        omega
    have hv : v.oneCell' = true := h1 v List.mem_cons_self
    have hst : (store ((⟨g, o, none⟩ : Addr).add i) v).run P w = .ok () (w.setRow g (cur.setIfInBounds (o + i) v)) := by
      rw [add_off, run_store P w _ v .plain hv]
      simp only [stored, hcell]
      simp [hfro, setCell_eq_setRow w g (o + i) cur t fz v hg]
    have ih := run_rowStore g o t fz rest (i + 1) (cur.setIfInBounds (o + i) v) (w.setRow g (cur.setIfInBounds (o + i) v)) (setRow_heap w g cur _ t fz hg) (by simpa using hfz) (by simp at hl ⊢; omega) (fun x hx => h1 x (List.mem_cons_of_mem _ hx))
    simp only [storeCells, Sem.run_bind, hst, Result.andThen_ok, ih, setRow_setRow]
    congr 2
    apply Array.ext'
    simp only [Array.toList_setIfInBounds, List.length_cons]
    have e1 : (cur.toList.set (o + i) v).take (o + (i + 1)) = cur.toList.take (o + i) ++ [v] := by
      rw [show o + (i + 1) = (o + i) + 1 by omega, List.take_add_one, List.take_set_of_le (Nat.le_refl _)]
      simp [List.getElem?_set, hi]
    have e2 : (cur.toList.set (o + i) v).drop (o + (i + 1) + rest.length) = cur.toList.drop (o + i + (rest.length + 1)) := by
      rw [List.drop_set_of_lt (by omega)]
      congr 1
      omega
    rw [e1, e2]
    simp [List.append_assoc]
theorem only_setRow (w : World) (g : Nat) (cs : Array Value) : Only [g] w (w.setRow g cs) :=
  ⟨rfl, rfl, rfl, by simp, fun k _ hn => setRow_other w g k cs (by simpa using hn)⟩

/-! ### append -/
/-- What append's second argument hands over: m elements, the cells news; wherever the heap is w's. -/
structure Src (P : Program) (w : World) (sz : Nat) (x : Value) (m : Nat) (news : List Value) : Prop where
  len : news.length = m * sz
  lenOf : ∀ w', (Builtin.lenOf x).run P w' = .ok m w'
  cells : ∀ w', w'.heap = w.heap → (Builtin.firstCells sz m x).run P w' = .ok ⟨news⟩ w'
  one : ∀ u ∈ news, u.oneCell' = true
theorem Src.rd (h : RdS w sz B m c2 news) (h1 : ∀ u ∈ news, u.oneCell' = true) : Src P w sz (.slice B m c2) m news where
  len := h.len
  one := h1
  lenOf w' := rfl
  cells w' hw := by
    cases B with
    | none =>
      have : m = 0 := by
        rcases Nat.eq_zero_or_pos m with h0 | h0
        · exact h0
        · obtain ⟨_, hA, _⟩ := h.cells h0
          cases hA
      subst this
      have : news = [] := List.eq_nil_of_length_eq_zero (by simpa using h.len)
      subst this
      exact run_firstCells_none w' sz 0 0 c2
    | some ad =>
      rcases Nat.eq_zero_or_pos m with h0 | h0
      · subst h0
        have : news = [] := List.eq_nil_of_length_eq_zero (by simpa using h.len)
        subst this
        exact run_firstCells_some (P := P) w' sz 0 ad 0 c2 [] (by simp) (by simp)
      · obtain ⟨_, hA, hc⟩ := h.cells h0
        cases hA
        exact run_firstCells_some (P := P) w' sz m ad m c2 news h.len fun j v hj => by
          have := hc j v hj
          simpa [World.cell?, hw] using this
theorem Src.rdB (h : RdB w B m c2 cs) : Src P w 1 (.slice B m c2) m (u8s cs) := .rd h fun _ => u8s_one
theorem Src.text (w : World) (s : List UInt8) : Src P w 1 (T s) s.length (u8s s) where
  len := by simp [u8s_len]
  one _ := u8s_one
  lenOf w' := rfl
  cells w' hw := by
    simp only [Builtin.firstCells, T]
    have : (ByteArray.extract ⟨⟨s⟩⟩ 0 s.length).data = ⟨s⟩ := by
      apply Array.ext'
      simp [ByteArray.data_extract]
    rw [this]
    simp [u8s, u8]
theorem run_append_grow' {T1 T2 ty : TypeId} (hS : P.underlying T1 = some (.slice e)) (he : Ty P e de zv sz by1) (hzc : zv.cells.size = sz) (hX : P.underlying T2 = some dx) (hdx : dx = .string ∨ ∃ e2, dx = .slice e2)
    (h : RdS w sz A n c xs) (hs : Src P w sz v m news) (hg : c < n + m) (h63 : n + m ≤ maxLen) (hb : (n + m) * by1 ≤ 140737488355328) (hA : A = none → n = 0 ∧ c = 0) :
    ∃ c' w', (Builtin.append_ #[T1, T2] ty #[.slice A n c, v]).run P w = .ok (.slice (some ⟨w.heap.size, 0, none⟩) (n + m) c') w' ∧ OwnS w' e sz (some ⟨w.heap.size, 0, none⟩) (n + m) c' (xs ++ news) ∧ Below w.heap.size w w' := by
  obtain ⟨_, ti, hi, hz, rfl, rfl⟩ := he
  have hn : ¬ (n + m ≤ c) := by omega
  have h63' : ¬ ((n : Int) + (m : Int) > IntKind.i64.max ∧ ti.bytes = 0) := by
    simp [maxLen, IntKind.max, IntKind.signed, IntKind.bits] at h63 ⊢
    omega
  have h63'' : ¬ (9223372036854775807 < ((n : Int) + (m : Int))) := by simp [maxLen] at h63; omega
  have hfit := growslice_fits (old := c) (need := n + m) hg hb
  have h48' : ¬ (281474976710656 < Builtin.nextslicecap (n + m) c * ti.bytes) := by omega
  have hf := hs.cells w.drew rfl
  have hfo : (Builtin.firstCells ti.size n (.slice A n c)).run P w.drew = .ok ⟨xs⟩ w.drew := by
    cases A with
    | none =>
      obtain ⟨rfl, rfl⟩ := hA rfl
      have : xs = [] := List.eq_nil_of_length_eq_zero (by simpa using h.len)
      subst this
      exact run_firstCells_none w.drew _ 0 0 0
    | some ad =>
      rcases Nat.eq_zero_or_pos n with h0 | h0
      · subst h0
        have : xs = [] := List.eq_nil_of_length_eq_zero (by simpa using h.len)
        subst this
        exact run_firstCells_some (P := P) w.drew _ 0 ad 0 c [] (by simp) (by simp)
      · obtain ⟨_, hA', hc⟩ := h.cells h0
        cases hA'
        exact run_firstCells_some (P := P) w.drew _ n ad n c xs h.len hc
  have hge := grownCap_ge w (n + m) c e
  have hcm := grownCap_le_maxLen w (n + m) c e h63
  refine ⟨grownCap w (n + m) c e, w.drew.alloc (.cells (xs.toArray ++ news.toArray ++ Builtin.zeroCells zv.cells (grownCap w (n + m) c e - (n + m))) e), ?_, ⟨by rw [List.length_append, h.len, hs.len, Nat.add_mul], hge, hcm,
    .inr ⟨w.heap.size, _, (0, 0), rfl, heap_alloc_new w.drew _, ?_, .inr rfl, ?_⟩⟩, (below_drew w).alloc (Nat.le_refl _) _⟩
  · have hlo := hs.lenOf w
    rcases hdx with rfl | ⟨e2, rfl⟩ <;>
      (simp [Builtin.append_, run_underlying hS, run_underlying hX, sizeOf, typeInfo, zeroValue, hi, hz, hlo, hn, h63'', h48', Question.forced, hf, hfo, newRow, grownCap]
       congr 2
       apply Array.ext'
       simp [List.append_assoc])
  · simp only [Array.size_append, List.size_toArray, size_zeroCells, hzc, h.len, hs.len, ← Nat.add_mul]
    congr 1
    omega
  · have hlen : (xs ++ news).length = (n + m) * ti.size := by rw [List.length_append, h.len, hs.len, Nat.add_mul]
    simp only [Array.toList_append, List.append_assoc]
    rw [← List.append_assoc, ← hlen]
    exact List.take_left
theorem run_append_own' {T1 T2 ty : TypeId} (hS : P.underlying T1 = some (.slice e)) (he : Ty P e de zv sz by1) (hzc : zv.cells.size = sz) (hX : P.underlying T2 = some dx) (hdx : dx = .string ∨ ∃ e2, dx = .slice e2)
    (h : OwnS w e sz A n c xs) (hs : Src P w sz v m news) (h63 : n + m ≤ maxLen) (hb : (n + m) * by1 ≤ 140737488355328) :
    ∃ A' c' w', (Builtin.append_ #[T1, T2] ty #[.slice A n c, v]).run P w = .ok (.slice A' (n + m) c') w' ∧ OwnS w' e sz A' (n + m) c' (xs ++ news) ∧ Only (ownF A) w w' ∧ (∀ j ∈ ownF A', j ∈ ownF A ∨ w.heap.size ≤ j) := by
  by_cases hroom : n + m ≤ c
  · have hlen : (xs ++ news).length = (n + m) * sz := by rw [List.length_append, h.len, hs.len, Nat.add_mul]
    have hlo := hs.lenOf w
    have hf := hs.cells w rfl
    have hsr := sizeOf_run (P := P) he.s
    rcases h.row with ⟨rfl, rfl⟩ | ⟨g, cur, fz, rfl, hg, hsz, hfz, htake⟩
    · obtain ⟨rfl, rfl⟩ : n = 0 ∧ m = 0 := by omega
      have hx0 : xs = [] := List.eq_nil_of_length_eq_zero (by simpa using h.len)
      have hn0 : news = [] := List.eq_nil_of_length_eq_zero (by simpa using hs.len)
      subst hx0 hn0
      refine ⟨none, 0, w, ?_, OwnS.nil w e sz, .refl _ _, fun j hj => by cases hj⟩
      rcases hdx with rfl | ⟨e2, rfl⟩ <;>
        simp [Builtin.append_, run_underlying hS, run_underlying hX, hsr, hlo, hf]
    · have hfit : n * sz + 0 + news.length ≤ cur.size := by rw [hs.len, hsz, Nat.add_zero, ← Nat.add_mul]; exact Nat.mul_le_mul_right _ hroom
      have hst := run_rowStore (P := P) g (n * sz) e fz news 0 cur w hg hfz hfit hs.one
      simp only [Nat.add_zero] at hst
      refine ⟨some ⟨g, 0, none⟩, c, w.setRow g (cur.toList.take (n * sz) ++ news ++ cur.toList.drop (n * sz + news.length)).toArray, ?_, ⟨hlen, hroom, h.max, .inr ⟨g, _, fz, rfl, setRow_heap w g cur _ e fz hg, ?_, ?_, ?_⟩⟩, only_setRow w g _, fun j hj => .inl hj⟩
      · rcases hdx with rfl | ⟨e2, rfl⟩ <;>
          simp [Builtin.append_, run_underlying hS, run_underlying hX, hsr, hlo, hf, hroom, add_at, hst]
      · simp only [List.size_toArray, List.length_append, List.length_take, List.length_drop, Array.length_toList]
        omega
      · refine hfz.imp (fun h => ?_) id
        simp only [List.size_toArray, List.length_append, List.length_take, List.length_drop, Array.length_toList]
        omega
      · rw [htake, ← hlen]
        exact List.take_left
  · obtain ⟨c', w', h1, h2, h3⟩ := run_append_grow' (ty := ty) hS he hzc hX hdx h.rd hs (by omega) h63 hb (fun hA => by
      subst hA
      rcases h.row with ⟨_, h0⟩ | ⟨_, _, _, h0, _⟩
      · have := h.cap; omega
      · cases h0)
    exact ⟨_, c', w', h1, h2, .of_below _ h3, fun j hj => .inr (by simp [ownF] at hj; omega)⟩
theorem TF.append {q : Nat} {T1 T2 : TypeId} {m1 : Nat} (H : Sat O w0 w L) (hq : nth L q = some (cOwn e sz A m1 c xs)) (ho : ops[i]? = some ⟨some d, .call ⟨.builtin .append, #[x, y], #[T1, T2]⟩, t, pos, aft, g⟩) (hc : cl i = .X)
    (hg : wantF ops f ⟨some d, .call ⟨.builtin .append, #[x, y], #[T1, T2]⟩, t, pos, aft, g⟩ = true) (hS : P.underlying T1 = some (.slice e)) (he : Ty P e de zv sz by1) (hzc : zv.cells.size = sz) (hX : P.underlying T2 = some dx) (hdx : dx = .string ∨ ∃ e2, dx = .slice e2)
    (hx : op f x = .slice A m1 c) (hy : op f y = v) (hs : Src P w sz v m news) (h63 : m1 + m ≤ maxLen) (hb : (m1 + m) * by1 ≤ 140737488355328)
    (hk : ∀ A' c' w', Only (ownF A) w w' → Sat O w0 w' (setAt L q (cOwn e sz A' (m1 + m) c' (xs ++ news))) → TF P ops n Q S cl l (upd f d (.slice A' (m1 + m) c')) w') : TF P ops n Q S cl (i :: l) f w := by
  obtain ⟨A', c', w', hr, h1, h2, h3⟩ := run_append_own' (ty := t) hS he hzc hX hdx (H.own_ hq) hs h63 hb
  refine TF.x ho hc hg (v := .slice A' (m1 + m) c') (w' := w') ?_ (hk A' c' w' h2 (H.setOwn hq h2 h1 h3))
  simp only [execOp, resolve, invoke, builtin, Sem.run_bind, Sem.run_pure, Result.andThen_ok, List.map_toArray, List.map_cons, List.map_nil, hx, hy, hr]
/-- append to what is only read, and has no room: a new row; nothing appended: it is handed back. -/
theorem TF.appendN {S2 : World → World → Prop} {T1 T2 : TypeId} {m1 : Nat} (H : Sat O w0 w L) (h : RdS w sz A m1 c xs) (hcap : c = m1) (hA : A = none → m1 = 0) (ho : ops[i]? = some ⟨some d, .call ⟨.builtin .append, #[x, y], #[T1, T2]⟩, t, pos, aft, g⟩) (hc : Cx cl i S S2 w)
    (hg : wantF ops f ⟨some d, .call ⟨.builtin .append, #[x, y], #[T1, T2]⟩, t, pos, aft, g⟩ = true) (hS : P.underlying T1 = some (.slice e)) (he : Ty P e de zv sz by1) (hzc : zv.cells.size = sz) (hX : P.underlying T2 = some dx) (hdx : dx = .string ∨ ∃ e2, dx = .slice e2)
    (hx : op f x = .slice A m1 c) (hy : op f y = v) (hs : Src P w sz v m news) (h63 : m1 + m ≤ maxLen) (hb : (m1 + m) * by1 ≤ 140737488355328)
    (hk : ∀ A' c' w', Below w.heap.size w w' → Sat O w0 w' L → RdS w' sz A' (m1 + m) c' (xs ++ news) → TF P ops n Q (S2 w') cl l (upd f d (.slice A' (m1 + m) c')) w') : TF P ops n Q S cl (i :: l) f w := by
  subst hcap
  rcases Nat.eq_zero_or_pos m with h0 | h0
  · subst h0
    have hn0 : news = [] := List.eq_nil_of_length_eq_zero (by simpa using hs.len)
    subst hn0
    have hlo := hs.lenOf w
    have hf := hs.cells w rfl
    have hsr := sizeOf_run (P := P) he.s
    refine TF.cx ho hc hg (v := .slice A c c) (w' := w) ?_ (Below.refl _ _) (by simpa using hk A c w (Below.refl _ _) H (by simpa using h))
    have hr : (Builtin.append_ #[T1, T2] t #[.slice A c c, v]).run P w = .ok (.slice A c c) w := by
      cases A <;> rcases hdx with rfl | ⟨e2, rfl⟩ <;>
        simp [Builtin.append_, run_underlying hS, run_underlying hX, hsr, hlo, hf, storeCells]
    simp only [execOp, resolve, invoke, builtin, Sem.run_bind, Sem.run_pure, Result.andThen_ok, List.map_toArray, List.map_cons, List.map_nil, hx, hy, hr]
  · obtain ⟨c', w', hr, h2, h3⟩ := run_append_grow' (ty := t) hS he hzc hX hdx h hs (by omega) h63 hb (fun hA' => by have := hA hA'; omega)
    refine TF.cx ho hc hg (v := .slice (some ⟨w.heap.size, 0, none⟩) (c + m) c') (w' := w') ?_ h3 (hk _ c' w' h3 (H.below h3) h2.rd)
    simp only [execOp, resolve, invoke, builtin, Sem.run_bind, Sem.run_pure, Result.andThen_ok, List.map_toArray, List.map_cons, List.map_nil, hx, hy, hr]

/-! ### copy -/
theorem TF.copy {q b o dl dc : Nat} {T1 T2 : TypeId} {vs : List Value} (H : Sat O w0 w L) (hq : nth L q = some (cBlk b e vs)) (ho : ops[i]? = some ⟨some d, .call ⟨.builtin .copy, #[x, y], #[T1, T2]⟩, t, pos, aft, g⟩) (hc : cl i = .X)
    (hg : wantF ops f ⟨some d, .call ⟨.builtin .copy, #[x, y], #[T1, T2]⟩, t, pos, aft, g⟩ = true) (hS : P.underlying T1 = some (.slice e)) (he : Sz P e de sz)
    (hx : op f x = .slice (some ⟨b, o, none⟩) dl dc) (hy : op f y = v) {m' : Nat} (hlo : ∀ w', (Builtin.lenOf v).run P w' = .ok m w') (hm : min m dl = m') (hs : (Builtin.firstCells sz m' v).run P w = .ok ⟨news⟩ w) (h1 : ∀ u ∈ news, u.oneCell' = true) (hfit : o + news.length ≤ vs.length)
    (hk : ∀ w', Only [b] w w' → Sat O w0 w' (setAt L q (cBlk b e (vs.take o ++ news ++ vs.drop (o + news.length)))) → TF P ops n Q S cl l (upd f d (.int .i64 (m' : Int))) w') : TF P ops n Q S cl (i :: l) f w := by
  have hb := H.blk hq
  have hst := run_rowStore (P := P) b o e (0, 0) news 0 ⟨vs⟩ w hb (.inr rfl) (by simpa using hfit) h1
  simp only [Nat.add_zero] at hst
  have hset : Blk (w.setRow b (vs.take o ++ news ++ vs.drop (o + news.length)).toArray) b e (vs.take o ++ news ++ vs.drop (o + news.length)) := setRow_heap w b ⟨vs⟩ _ e (0, 0) hb
  refine TF.x ho hc hg (v := .int .i64 (m' : Int)) (w' := w.setRow b (vs.take o ++ news ++ vs.drop (o + news.length)).toArray) ?_ (hk _ (only_setRow w b _) (H.setBlk hq (only_setRow w b _) hset))
  have hm2 : Nat.min m dl = m' := hm
  have hlw := hlo w
  have hr : (Builtin.copy_ #[T1, T2] t #[.slice (some ⟨b, o, none⟩) dl dc, v]).run P w = .ok (goInt (m' : Int)) (w.setRow b (vs.take o ++ news ++ vs.drop (o + news.length)).toArray) := by
    simp [Builtin.copy_, run_underlying hS, hlw, hm2, sizeOf_run he, hs, hst]
  simp only [execOp, resolve, invoke, builtin, Sem.run_bind, Sem.run_pure, Result.andThen_ok, List.map_toArray, List.map_cons, List.map_nil, hx, hy, hr]
  rfl
theorem first_rdB {B : Option Addr} {m c2 : Nat} {cs : List UInt8} (h : RdB w B m c2 cs) {m' : Nat} (hm : m' ≤ m) : (Builtin.firstCells 1 m' (.slice B m c2)).run P w = .ok ⟨u8s (cs.take m')⟩ w := by
  have hl := h.length
  cases B with
  | none =>
    have : m = 0 := by
      rcases Nat.eq_zero_or_pos m with h0 | h0
      · exact h0
      · obtain ⟨_, hA, _⟩ := h.cells h0
        cases hA
    obtain rfl : m' = 0 := by omega
    simp [Builtin.firstCells, u8s]
  | some ad =>
    refine run_firstCells_some (P := P) w 1 m' ad m c2 _ (by rw [u8s_len, List.length_take]; omega) fun j v hj => ?_
    rw [← u8s_take, List.getElem?_take] at hj
    split at hj
    · obtain ⟨_, hA, hc⟩ := h.cells (by omega)
      cases hA
      exact hc j v hj
    · cases hj
theorem first_text (w : World) (s : List UInt8) (m' : Nat) : (Builtin.firstCells 1 m' (T s)).run P w = .ok ⟨u8s (s.take m')⟩ w := by
  simp only [Builtin.firstCells, T]
  have : (ByteArray.extract ⟨⟨s⟩⟩ 0 m').data = ⟨s.take m'⟩ := by
    apply Array.ext'
    simp [ByteArray.data_extract]
  rw [this]
  simp [u8s]
  rfl
end
end Go.Q
