/- The frame of a call as a function of the slot's number; regions (in the text's order, or in whatever order) and control, told over it. Conditions: none. -/
import Derived.OrdersHeld
import Derived.Below
import Derived.Tactics2
import Derived.LoopTactic
set_option linter.unusedSimpArgs false
set_option linter.unusedVariables false
namespace Go.Q
open Go.RowKit

/-! ### 1. The frame -/
def upd (f : Nat → Value) (d : Nat) (v : Value) : Nat → Value := fun t => bif Nat.beq t d then v else f t
theorem upd_eq (f : Nat → Value) (d : Nat) (v : Value) (t : Nat) : upd f d v t = if t = d then v else f t := by
  unfold upd
  by_cases h : t = d
  · subst h; simp
  · have : Nat.beq t d = false := by
      cases hb : Nat.beq t d with
      | false => rfl
      | true => exact absurd (Nat.eq_of_beq_eq_true hb) h
    simp [this, h]
def putE (f : Nat → Value) (d : Option Tmp) (v : Value) : Nat → Value := match d with | some d => upd f d v | none => f
def op (f : Nat → Value) : Operand → Value
  | .tmp t => f t
  | .const v => v
  | .global g => .pointer (some ⟨g, 0, none⟩)
  | .func k => .func (.func k) #[] #[]
def E (n : Nat) (f : Nat → Value) : Act := { tmps := ((List.range n).map f).toArray, defers := [] }

theorem E_get (n : Nat) (f : Nat → Value) (t : Nat) : (E n f).tmps[t]? = if t < n then some (f t) else none := by
  simp [E, List.getElem?_map, List.getElem?_range']
  by_cases h : t < n <;> simp [h, List.getElem?_range]
theorem E_ext {n : Nat} {f g : Nat → Value} (h : ∀ t, t < n → f t = g t) : E n f = E n g := by
  unfold E
  congr 2
  apply List.map_congr_left
  intro t ht
  exact h t (by simpa using ht)
theorem E_put (n : Nat) (f : Nat → Value) (d : Option Tmp) (v : Value) : (E n f).put d v = E n (putE f d v) := by
  cases d with
  | none => rfl
  | some d =>
    simp only [Act.put, putE, E]
    congr 1
    apply Array.ext'
    simp only [Array.toList_setIfInBounds]
    apply List.ext_getElem?
    intro t
    simp only [List.getElem?_set, List.getElem?_map, List.length_map, List.length_range]
    by_cases h : d = t
    · subst h
      by_cases hd : d < n
      · simp [hd, upd_eq, List.getElem?_range]
      · simp [hd, List.getElem?_eq_none, List.length_range]
    · simp only [h, if_false]
      by_cases ht : t < n
      · simp [List.getElem?_range, ht, upd_eq, Ne.symm h]
      · simp [List.getElem?_eq_none, List.length_range, ht]
theorem E_tmp {n t : Nat} (f : Nat → Value) (h : Nat.blt t n = true) : (E n f).eval (.tmp t) = f t := by
  have h : t < n := by simpa [Nat.blt_eq] using h
  have := E_get n f t
  simp only [h, if_true] at this
  simp [Act.eval, this]
/-- Each temporary that the operand names is one of the frame's. -/
def okx (n : Nat) : Operand → Bool
  | .tmp t => Nat.blt t n
  | _ => true
theorem E_eval {n : Nat} (f : Nat → Value) {x : Operand} (h : okx n x = true) : (E n f).eval x = op f x := by
  cases x with
  | tmp t => exact E_tmp f h
  | _ => rfl
def okOper (n : Nat) (ops : Array Oper) (o : Oper) : Bool :=
  o.op.operands.all (okx n) && (match o.guard with | none => true | some (j, _) => match (ops[j]?).bind (·.dst) with | some d => Nat.blt d n | none => true)
def okBound (n : Nat) (ops : Array Oper) : Bool := Region.noSelect ops && ops.all (okOper n ops)

/-- The guard's word, off the frame. -/
def yieldF (ops : Array Oper) (f : Nat → Value) (j : Nat) : Option Bool :=
  match (ops[j]?).bind (·.dst) with
  | some d => match f d with | .bool b => some b | _ => none
  | none => none
def wantF (ops : Array Oper) (f : Nat → Value) (o : Oper) : Bool :=
  match o.guard with
  | none => true
  | some (j, want) => yieldF ops f j == some want
theorem wantF_eq {n : Nat} {ops : Array Oper} {f : Nat → Value} {o : Oper} (h : okOper n ops o = true) : Region.wanted o (yielded ops (E n f).tmps) = wantF ops f o := by
  unfold Region.wanted wantF
  cases hg : o.guard with
  | none => rfl
  | some p =>
    obtain ⟨j, want⟩ := p
    simp only []
    have : yielded ops (E n f).tmps j = yieldF ops f j := by
      unfold yielded yieldF
      cases hd : (ops[j]?).bind (·.dst) with
      | none => rfl
      | some d =>
        have hlt : d < n := by
          simp only [okOper, hg, hd, Bool.and_eq_true] at h
          simpa [Nat.blt_eq] using h.2
        have := E_get n f d
        simp only [hlt, if_true] at this
        simp only [Option.bind_some, this]
        cases f d <;> rfl
    rw [this]
theorem exec_eq {n : Nat} {ops : Array Oper} {f : Nat → Value} {o : Oper} (hs : ∀ cs b, o.op ≠ .select cs b) (h : okOper n ops o = true) : execOp (E n f).eval o = execOp (op f) o := by
  refine execOp_congr o hs fun x hx => E_eval f ?_
  simp only [okOper, Bool.and_eq_true] at h
  exact Array.all_eq_true_iff_forall_mem.1 h.1 x hx

/-! ### 2. Operations of a region, one behind the other: each is of one of four kinds -/
inductive Cl where
  | U | R | P | X
  deriving DecidableEq, Repr

/-- No panic, no end of room. -/
def No : Exit → Act → World → Prop := fun _ _ _ => False

/-- U: its value hangs on no world. R: .. on none that meets S. P: it may turn the world, and S, or more, holds behind it. X: whatever. -/
def TA (P : Program) (ops : Array Oper) (Q : Exit → Act → World → Prop) : (World → Prop) → (Nat → Cl) → List Nat → Act → World → Prop
  | _, _, [], a, w => Q .normal a w
  | S, cl, i :: l, a, w =>
    ∃ o, ops[i]? = some o ∧
      if Region.wanted o (yielded ops a.tmps) = true then
        match cl i with
        | .U => ∃ v, (∀ w', (execOp a.eval o).run P w' = .ok (.value v) w') ∧ TA P ops Q S cl l (a.put o.dst v) w
        | .R => ∃ v, (∀ w', S w' → (execOp a.eval o).run P w' = .ok (.value v) w') ∧ TA P ops Q S cl l (a.put o.dst v) w
        | .P => o.upon P a (fun a' w' => ∃ S' : World → Prop, (∀ x, S' x → S x) ∧ S' w' ∧ TA P ops Q S' cl l a' w') No ((execOp a.eval o).run P w)
        | .X => o.upon P a (fun a' w' => TA P ops Q S cl l a' w') No ((execOp a.eval o).run P w)
      else TA P ops Q S cl l (a.put o.dst undef) w

theorem upon_mono {P : Program} {o : Oper} {a : Act} {K K' : Act → World → Prop} {Q : Exit → Act → World → Prop} {r : Result Next}
    (h : o.upon P a K No r) (hk : ∀ a w, K a w → K' a w) : o.upon P a K' Q r := by
  cases r with
  | ok n w' =>
    cases n <;> simp only [Oper.upon] at h ⊢ <;>
      first
        | exact hk _ _ h
        | exact Calls.mono h (fun e w'' he => by cases e <;> first | exact hk _ _ he | exact he.elim | (obtain ⟨_, _, h⟩ := he; exact h.elim))
        | exact Rows.mono h (fun _ _ he => hk _ _ he)
  | halt x w' => cases x <;> simp only [Oper.upon] at h ⊢ <;> exact h.elim

section
variable {P : Program} {ops : Array Oper} {Q : Exit → Act → World → Prop} {S : World → Prop} {cl : Nat → Cl}

/-- In the text's order. -/
theorem TA.text (hS : ∀ w, S w) : ∀ (l : List Nat) (a : Act) (w : World), (∀ i ∈ l, cl i ≠ .P) → TA P ops Q S cl l a w → wpOps P ops Q l a w
  | [], _, _, _, h => h
  | i :: l, a, w, hP0, h => by
    have hP := fun j hj => hP0 j (List.mem_cons_of_mem _ hj)
    obtain ⟨o, ho, h⟩ := h
    simp only [wpOps, ho]
    by_cases hw : Region.wanted o (yielded ops a.tmps) = true
    · rw [if_pos hw] at h ⊢
      refine .inl ?_
      unfold Oper.wp
      cases hc : cl i <;> simp only [hc] at h
      · obtain ⟨v, hv, h⟩ := h
        rw [hv w]
        exact TA.text hS l _ _ hP h
      · obtain ⟨v, hv, h⟩ := h
        rw [hv w (hS w)]
        exact TA.text hS l _ _ hP h
      · exact absurd hc (hP0 i List.mem_cons_self)
      · exact upon_mono h fun a' w' h => TA.text hS l _ _ hP h
    · rw [if_neg hw] at h ⊢
      exact TA.text hS l _ _ hP h

/-- May j, which stands ahead of i in the list, come behind it? Then it waits for nothing of i's. -/
def okPair (ops : Array Oper) (B : Array Nat) (cl : Nat → Cl) (j i : Nat) : Bool :=
  (B.getD i 0).testBit j || (match ops[j]?, ops[i]? with
    | some oj, some oi => oj.apart ops oi && (cl j == .U || (cl j == .R && cl i != .X))
    | _, _ => false)
def okList (ops : Array Oper) (B : Array Nat) (cl : Nat → Cl) : List Nat → Bool
  | [] => true
  | j :: l => l.all (okPair ops B cl j) && (cl j != .X || l.all (cl · != .R)) && okList ops B cl l
/-- What B says of i comes of what i waits for itself. -/
def okB (ops : Array Oper) (B : Array Nat) : Bool :=
  (List.range ops.size).all fun i => match ops[i]? with
    | none => false
    | some o => (o.after.all fun e => !Region.binds .any e || Nat.blt e.on i) &&
        (List.range ops.size).all fun j => !(B.getD i 0).testBit j || o.after.any fun e => Region.binds .any e && (e.on == j || (B.getD e.on 0).testBit j)
def okOnce : List Nat → Bool
  | [] => true
  | i :: l => !l.contains i && okOnce l
theorem okOnce_nodup : ∀ (l : List Nat), okOnce l = true → l.Nodup
  | [], _ => List.nodup_nil
  | i :: l, h => by
    simp only [okOnce, Bool.and_eq_true] at h
    exact List.nodup_cons.2 ⟨by simpa using h.1, okOnce_nodup l h.2⟩
def okOrd (ops : Array Oper) (cl : Nat → Cl) (ord : List Nat) : Bool :=
  Region.noSelect ops && ord.length == ops.size && okOnce ord && ord.all (Nat.blt · ops.size) && (List.range ops.size).all (ord.contains ·) && okB ops (Region.before ops) && okList ops (Region.before ops) cl ord

def Valid (ops : Array Oper) (listed : Array Bool) : Prop :=
  ∀ (i : Nat) (o : Oper), ops[i]? = some o → listed.getD i true = true → ∀ e ∈ o.after, Region.binds .any e = true → listed.getD e.on false = true

theorem before_listed {B : Array Nat} (hB : okB ops B = true) {listed : Array Bool} (hsz : listed.size = ops.size) (hv : Valid ops listed) :
    ∀ (i : Nat) (o : Oper), ops[i]? = some o → (∀ e ∈ o.after, Region.binds .any e = true → listed.getD e.on false = true) →
      ∀ j, j < ops.size → (B.getD i 0).testBit j = true → listed.getD j true = true := by
  intro i
  induction i using Nat.strongRecOn with
  | _ i ih =>
    intro o ho hall j hj hb
    have hi : i < ops.size := (Array.getElem?_eq_some_iff.1 ho).1
    unfold okB at hB
    have h1 := List.all_eq_true.1 hB i (by simpa using hi)
    simp only [ho, Bool.and_eq_true] at h1
    have h2 := List.all_eq_true.1 h1.2 j (by simpa using hj)
    simp only [hb, Bool.not_true, Bool.false_or] at h2
    rw [← Array.any_toList, List.any_eq_true] at h2
    obtain ⟨e, he, h3⟩ := h2
    have he : e ∈ o.after := by simpa using he
    simp only [Bool.and_eq_true, Bool.or_eq_true, beq_iff_eq] at h3
    have hl := hall e he h3.1
    have hlt : e.on < i := by
      have := Array.all_eq_true_iff_forall_mem.1 h1.1 e he
      simp only [h3.1, Bool.not_true, Bool.false_or] at this
      simpa [Nat.blt_eq] using this
    have hlt' : e.on < listed.size := by
      rw [hsz]
      omega
    have hl' : listed.getD e.on true = true := by
      simp [hlt'] at hl ⊢
      exact hl
    rcases h3.2 with h4 | h4
    · subst h4; exact hl'
    · have ho' : ops[e.on]? = some (ops[e.on]'(by omega)) := by simp [show e.on < ops.size by omega]
      exact ih e.on hlt _ ho' (hv e.on _ ho' hl') j hj h4

theorem TA.hoist {i : Nat} {oi : Oper} (hi : ops[i]? = some oi) (hsel : ∀ (j : Nat) (o : Oper) cs b, ops[j]? = some o → o.op ≠ .select cs b) (l2 : List Nat) :
    ∀ (l1 : List Nat) (need : Prop), (need → cl i ≠ .X) → (∀ j ∈ l1, ∃ oj, ops[j]? = some oj ∧ oj.apart ops oi = true ∧ (cl j = .U ∨ (cl j = .R ∧ cl i ≠ .X))) →
      (cl i = .X → ∀ j ∈ l2, cl j ≠ .R) →
      ∀ (a : Act) (w : World), ((need ∨ ∃ j ∈ l1 ++ i :: l2, cl j = .R) → S w) → TA P ops Q S cl (l1 ++ i :: l2) a w →
        wpOp P ops No i (fun a' w' => ∃ S' : World → Prop, (∀ x, S' x → S x) ∧ ((need ∨ ∃ j ∈ l1 ++ l2, cl j = .R) → S' w') ∧ TA P ops Q S' cl (l1 ++ l2) a' w') a w
  | [], need, hn, _, hX, a, w, hS, h => by
    obtain ⟨o, ho, h⟩ := h
    rw [hi] at ho
    cases ho
    unfold wpOp
    simp only [hi]
    simp only [List.nil_append] at hS ⊢
    have hS' : (need ∨ ∃ j ∈ l2, cl j = .R) → S w := fun h => hS (h.imp id fun ⟨j, hj, hr⟩ => ⟨j, List.mem_cons_of_mem _ hj, hr⟩)
    by_cases hw : Region.wanted oi (yielded ops a.tmps) = true
    · rw [if_pos hw] at h ⊢
      refine .inl ?_
      unfold Oper.wp
      cases hc : cl i <;> simp only [hc] at h
      · obtain ⟨v, hv, h⟩ := h
        rw [hv w]
        exact ⟨S, fun _ h => h, hS', h⟩
      · obtain ⟨v, hv, h⟩ := h
        rw [hv w (hS (.inr ⟨i, List.mem_cons_self, hc⟩))]
        exact ⟨S, fun _ h => h, hS', h⟩
      · exact upon_mono h fun a' w' ⟨S', h1, h2, h3⟩ => ⟨S', h1, fun _ => h2, h3⟩
      · refine upon_mono h fun a' w' h => ⟨S, fun _ h => h, fun h' => ?_, h⟩
        rcases h' with h' | ⟨j, hj, hr⟩
        · exact absurd hc (hn h')
        · exact absurd hr (hX hc j hj)
    · rw [if_neg hw] at h ⊢
      exact ⟨S, fun _ h => h, hS', h⟩
  | j :: l1, need, hn, hl, hX, a, w, hS, h => by
    obtain ⟨oj, hoj, hap, hcl⟩ := hl j List.mem_cons_self
    obtain ⟨o, ho, h⟩ := h
    rw [hoj] at ho
    cases ho
    have hl' : ∀ k ∈ l1, ∃ ok, ops[k]? = some ok ∧ ok.apart ops oi = true ∧ (cl k = .U ∨ (cl k = .R ∧ cl i ≠ .X)) := fun k hk => hl k (List.mem_cons_of_mem _ hk)
    have hn' : (need ∨ cl j = .R) → cl i ≠ .X := fun h' => h'.elim hn fun hr => by
      rcases hcl with hc | hc
      · rw [hc] at hr; cases hr
      · exact hc.2
    have hS' : ((need ∨ cl j = .R) ∨ ∃ k ∈ l1 ++ i :: l2, cl k = .R) → S w := by
      rintro ((h' | h') | ⟨k, hk, hr⟩)
      · exact hS (.inl h')
      · exact hS (.inr ⟨j, List.mem_cons_self, h'⟩)
      · exact hS (.inr ⟨k, List.mem_cons_of_mem _ hk, hr⟩)
    -- what j yields
    have key : ∀ (S' : World → Prop) (v : Value), YieldsIf P ops S' oj v a → TA P ops Q S cl (l1 ++ i :: l2) (a.put oj.dst v) w →
        ((cl j = .U ∧ ∀ w, S' w) ∨ (cl j = .R ∧ S' = S)) →
        wpOp P ops No i (fun a' w' => ∃ S2 : World → Prop, (∀ x, S2 x → S x) ∧ ((need ∨ ∃ k ∈ (j :: l1) ++ l2, cl k = .R) → S2 w') ∧ TA P ops Q S2 cl ((j :: l1) ++ l2) a' w') a w := by
      intro S' v hy ht hcase
      have h1 := TA.hoist hi hsel l2 l1 (need ∨ cl j = .R) hn' hl' hX (a.put oj.dst v) w hS' ht
      have h4 := wpOp_putIf (ops := ops) (S := S') hi hap (fun cs b => hsel j oj cs b hoj) (fun cs b => hsel i oi cs b hi) (fun _ _ _ h => h) hy h1
      refine wpOp_mono (fun a' w' ⟨hy', S2, hsub, hSl, ht'⟩ => ⟨S2, hsub, ?_, oj, hoj, ?_⟩) h4
      · rintro (h' | ⟨k, hk, hr⟩)
        · exact hSl (.inl (.inl h'))
        · rcases List.mem_cons.1 hk with rfl | hk
          · exact hSl (.inl (.inr hr))
          · exact hSl (.inr ⟨k, hk, hr⟩)
      · rcases hy' with ⟨hwant, hv⟩ | ⟨hwant, rfl⟩
        · rw [if_pos hwant]
          rcases hcase with ⟨hc, hs⟩ | ⟨hc, rfl⟩
          · simp only [hc]
            exact ⟨v, fun w' => hv w' (hs w'), ht'⟩
          · simp only [hc]
            exact ⟨v, fun w' hw' => hv w' (hsub w' hw'), ht'⟩
        · rw [if_neg (by rw [hwant]; simp)]
          exact ht'
    by_cases hw : Region.wanted oj (yielded ops a.tmps) = true
    · rw [if_pos hw] at h
      rcases hcl with hc | ⟨hc, hci⟩
      · simp only [hc] at h
        obtain ⟨v, hv, h⟩ := h
        exact key (fun _ => True) v (.inl ⟨hw, fun w' _ => hv w'⟩) h (.inl ⟨hc, fun _ => trivial⟩)
      · simp only [hc] at h
        obtain ⟨v, hv, h⟩ := h
        exact key S v (.inl ⟨hw, hv⟩) h (.inr ⟨hc, rfl⟩)
    · rw [if_neg hw] at h
      have hwf : Region.wanted oj (yielded ops a.tmps) = false := by simpa using hw
      rcases hcl with hc | ⟨hc, hci⟩
      · exact key (fun _ => True) undef (.inr ⟨hwf, rfl⟩) h (.inl ⟨hc, fun _ => trivial⟩)
      · exact key S undef (.inr ⟨hwf, rfl⟩) h (.inr ⟨hc, rfl⟩)

theorem wpOp_no {i : Nat} {K : Act → World → Prop} {a : Act} {w : World} (h : wpOp P ops No i K a w) : wpOp P ops Q i K a w := by
  unfold wpOp at *
  split
  · rename_i hi
    simpa only [hi] using h
  · rename_i o hi
    simp only [hi] at h
    split
    · rename_i hw
      rw [if_pos hw] at h
      rcases h with h | ⟨_, _, _, h⟩
      · exact .inl (upon_mono h fun _ _ h => h)
      · exact h.elim
    · rename_i hw
      rw [if_neg hw] at h
      exact h

theorem TA.any_ (hsel : ∀ (j : Nat) (o : Oper) cs b, ops[j]? = some o → o.op ≠ .select cs b) (hB : okB ops (Region.before ops) = true) :
    ∀ (k : Nat) (S : World → Prop) (l : List Nat), l.length = k → ∀ (listed : Array Bool), listed.size = ops.size → Valid ops listed → l.Nodup → (∀ i, i ∈ l ↔ i < ops.size ∧ listed.getD i true = false) →
      okList ops (Region.before ops) cl l = true → ∀ (a : Act) (w : World), ((∃ j ∈ l, cl j = .R) → S w) → TA P ops Q S cl l a w → wpAny P .any ops Q k listed a w := by
  intro k
  induction k with
  | zero =>
    intro S l hl listed hsz hv hnd hmem _ a w _ h
    obtain rfl : l = [] := List.length_eq_zero_iff.1 hl
    refine ⟨?_, h⟩
    apply List.eq_nil_iff_forall_not_mem.2
    intro i hi
    obtain ⟨h0, o, ho, _⟩ := mem_ready.1 hi
    have := (hmem i).2 ⟨(Array.getElem?_eq_some_iff.1 ho).1, h0⟩
    cases this
  | succ k ih =>
    intro S l hl listed hsz hv hnd hmem hok a w hS h
    refine ⟨fun hr => ?_, fun i hi => ?_⟩
    · -- the least that is left may come up
      exfalso
      have hex : ∃ i, i < ops.size ∧ listed.getD i true = false := by
        cases l with
        | nil => cases hl
        | cons j l => exact ⟨j, (hmem j).1 List.mem_cons_self⟩
      have hmin : ∃ i, (i < ops.size ∧ listed.getD i true = false) ∧ ∀ j, j < i → ¬ (j < ops.size ∧ listed.getD j true = false) := by
        obtain ⟨i, hi⟩ := hex
        induction i using Nat.strongRecOn with
        | _ i ihm =>
          by_cases hsm : ∃ j, j < i ∧ (j < ops.size ∧ listed.getD j true = false)
          · obtain ⟨j, hj, hj'⟩ := hsm
            exact ihm j hj hj'
          · exact ⟨i, hi, fun j hj hj' => hsm ⟨j, hj, hj'⟩⟩
      obtain ⟨i, ⟨hi, hu⟩, hm⟩ := hmin
      have ho : ops[i]? = some (ops[i]'hi) := by simp [hi]
      have hmr : i ∈ Region.ready .any ops listed := mem_ready.2 ⟨hu, _, ho, fun e he hb => by
        unfold okB at hB
        have h1 := List.all_eq_true.1 hB i (by simpa using hi)
        simp only [ho, Bool.and_eq_true] at h1
        have h2 := Array.all_eq_true_iff_forall_mem.1 h1.1 e he
        simp only [hb, Bool.not_true, Bool.false_or, Nat.blt_eq] at h2
        have h3 := hm e.on h2
        have hlt : e.on < ops.size := by omega
        have hlt' : e.on < listed.size := by omega
        simp only [hlt, true_and] at h3
        simp [hlt'] at h3 ⊢
        exact h3⟩
      rw [hr] at hmr
      cases hmr
    · obtain ⟨hu, oi, hoi, hall⟩ := mem_ready.1 hi
      have hilt : i < ops.size := (Array.getElem?_eq_some_iff.1 hoi).1
      have hil : i ∈ l := (hmem i).2 ⟨hilt, hu⟩
      obtain ⟨l1, l2, rfl⟩ := List.append_of_mem hil
      -- those ahead of i in the list are apart from it
      have hpair : ∀ (l1 l2 : List Nat), okList ops (Region.before ops) cl (l1 ++ i :: l2) = true →
          (∀ j ∈ l1, okPair ops (Region.before ops) cl j i = true) ∧ (cl i = .X → ∀ j ∈ l2, cl j ≠ .R) ∧ okList ops (Region.before ops) cl (l1 ++ l2) = true := by
        intro l1
        induction l1 with
        | nil =>
          intro l2 h
          simp only [List.nil_append, okList, Bool.and_eq_true, Bool.or_eq_true, bne_iff_ne] at h
          refine ⟨by simp, fun hx j hj => ?_, h.2⟩
          have := (h.1.2.resolve_left (fun h' => h' hx))
          simpa using List.all_eq_true.1 this j hj
        | cons j l1 ihp =>
          intro l2 h
          simp only [List.cons_append, okList, Bool.and_eq_true] at h
          obtain ⟨⟨h1, h2⟩, h3⟩ := h
          obtain ⟨p1, p2, p3⟩ := ihp l2 h3
          have hsub : ∀ k ∈ l1 ++ l2, k ∈ l1 ++ i :: l2 := fun k hk => by
            rcases List.mem_append.1 hk with hk | hk
            · exact List.mem_append_left _ hk
            · exact List.mem_append_right _ (List.mem_cons_of_mem _ hk)
          refine ⟨fun k hk => ?_, p2, ?_⟩
          · rcases List.mem_cons.1 hk with rfl | hk
            · exact List.all_eq_true.1 h1 i (List.mem_append_right _ List.mem_cons_self)
            · exact p1 k hk
          · simp only [List.cons_append, okList, Bool.and_eq_true]
            refine ⟨⟨List.all_eq_true.2 fun k hk => List.all_eq_true.1 h1 k (hsub k hk), ?_⟩, p3⟩
            simp only [Bool.or_eq_true] at h2 ⊢
            exact h2.imp id fun h2 => List.all_eq_true.2 fun k hk => List.all_eq_true.1 h2 k (hsub k hk)
      obtain ⟨hp, hX, hok'⟩ := hpair l1 l2 hok
      have hapart : ∀ j ∈ l1, ∃ oj, ops[j]? = some oj ∧ oj.apart ops oi = true ∧ (cl j = .U ∨ (cl j = .R ∧ cl i ≠ .X)) := by
        intro j hj
        have hjm := (hmem j).1 (List.mem_append_left _ hj)
        have h1 := hp j hj
        unfold okPair at h1
        simp only [Bool.or_eq_true] at h1
        rcases h1 with h1 | h1
        · have := before_listed hB hsz hv i oi hoi hall j hjm.1 h1
          rw [hjm.2] at this
          cases this
        · have hoj : ops[j]? = some (ops[j]'hjm.1) := by simp [hjm.1]
          simp only [hoj, hoi, Bool.and_eq_true, Bool.or_eq_true, beq_iff_eq, bne_iff_ne] at h1
          exact ⟨_, hoj, h1.1, h1.2⟩
      have h2 := TA.hoist hoi hsel l2 l1 False (fun h => h.elim) hapart hX a w (fun h' => hS (h'.resolve_left id)) h
      have hnd' : (l1 ++ l2).Nodup := by
        rw [List.nodup_append] at hnd ⊢
        exact ⟨hnd.1, (List.nodup_cons.1 hnd.2.1).2, fun x hx y hy => hnd.2.2 x hx y (List.mem_cons_of_mem _ hy)⟩
      have hni : i ∉ l1 ++ l2 := by
        intro h'
        rw [List.nodup_append] at hnd
        rcases List.mem_append.1 h' with h' | h'
        · exact hnd.2.2 i h' i List.mem_cons_self rfl
        · exact (List.nodup_cons.1 hnd.2.1).1 h'
      refine wpOp_mono (fun a' w' ⟨S', hsub, h3, h4⟩ => ?_) (wpOp_no h2)
      refine ih S' (l1 ++ l2) (by simp at hl ⊢; omega) _ (by simpa using hsz) ?_ hnd' ?_ hok' a' w' (fun h' => h3 (.inr h')) h4
      · intro j o ho hlj e he hb
        by_cases hji : i = j
        · subst hji
          rw [hoi] at ho
          cases ho
          exact getD_set_true (hall e he hb)
        · rw [getD_set_ne true hji] at hlj
          exact getD_set_true (hv j o ho hlj e he hb)
      · intro j
        by_cases hji : i = j
        · subst hji
          simp only [hni, false_iff, not_and]
          intro _
          have hlt' : i < listed.size := by omega
          simp [hlt']
        · rw [getD_set_ne true hji, ← hmem j]
          simp [hji, Ne.symm hji]

/-- **A REGION, IN WHATEVER ORDER.** -/
theorem TA.draw {id : Nat} {a : Act} {w : World} (hm : P.follows .mixedOrders = true) (ord : List Nat) (hok : okOrd ops cl ord = true) (hS : S w.drew) (h : TA P ops Q S cl ord a w.drew) :
    (Code.region id ops true).wp P Q a w := by
  simp only [okOrd, Bool.and_eq_true, beq_iff_eq] at hok
  obtain ⟨⟨⟨⟨⟨⟨h1, h2⟩, hnd0⟩, hlt⟩, h3⟩, h4⟩, h5⟩ := hok
  have hsub : ∀ i, i < ops.size → i ∈ ord := fun i hi => by
    have := List.all_eq_true.1 h3 i (by simpa using hi)
    simpa using this
  have hsup : ∀ i, i ∈ ord → i < ops.size := fun i hi => by
    have := List.all_eq_true.1 hlt i hi
    simpa [Nat.blt_eq] using this
  have hnd : ord.Nodup := okOnce_nodup ord hnd0
  refine wp_region_any hm (TA.any_ (Region.noSelect_spec h1) h4 ops.size S ord h2 _ (by simp) ?_ hnd ?_ h5 a _ (fun _ => hS) h)
  · intro i o ho hl
    exfalso
    have : i < ops.size := (Array.getElem?_eq_some_iff.1 ho).1
    simp [this] at hl
  · intro i
    constructor
    · intro hi
      have := hsup i hi
      exact ⟨this, by simp [this]⟩
    · exact fun h => hsub i h.1
/-- A region whose order is the text's. -/
theorem TA.plain {id : Nat} {a : Act} {w : World} (hS : ∀ w, S w) (hP : ∀ i ∈ List.range ops.size, cl i ≠ .P) (h : TA P ops Q S cl (List.range ops.size) a w) : (Code.region id ops false).wp P Q a w :=
  wp_region (TA.text hS _ _ _ hP h)
end
end Go.Q
