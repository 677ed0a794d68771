/- A region's operations over a frame that is a function; control; entry and end of a call. Conditions: none. -/
import Derived.Test.YtpncaeadbfdflaaCore1
set_option linter.unusedSimpArgs false
set_option linter.unusedVariables false
namespace Go.Q
open Go.RowKit

/-! ### 1. A region over the frame -/
def upF (P : Program) (o : Oper) (f : Nat → Value) (next : (Nat → Value) → World → Prop) : Result Next → Prop
  | .ok (.value v) w' => next (putE f o.dst v) w'
  | .ok .skip w' => next (putE f o.dst undef) w'
  | .ok (.enter g args) w' => Calls P g args w' fun e w'' => ∃ v, e = .returned v ∧ next (putE f o.dst v) w''
  | _ => False
def TF (P : Program) (ops : Array Oper) (n : Nat) (Q : Exit → Act → World → Prop) : (World → Prop) → (Nat → Cl) → List Nat → (Nat → Value) → World → Prop
  | _, _, [], f, w => Q .normal (E n f) w
  | S, cl, i :: l, f, w =>
    ∃ o, ops[i]? = some o ∧
      if wantF ops f o = true then
        match cl i with
        | .U => ∃ v, (∀ w', (execOp (op f) o).run P w' = .ok (.value v) w') ∧ TF P ops n Q S cl l (putE f o.dst v) w
        | .R => ∃ v, (∀ w', S w' → (execOp (op f) o).run P w' = .ok (.value v) w') ∧ TF P ops n Q S cl l (putE f o.dst v) w
        | .P => upF P o f (fun f' w' => ∃ S' : World → Prop, (∀ x, S' x → S x) ∧ S' w' ∧ TF P ops n Q S' cl l f' w') ((execOp (op f) o).run P w)
        | .X => upF P o f (fun f' w' => TF P ops n Q S cl l f' w') ((execOp (op f) o).run P w)
      else TF P ops n Q S cl l (putE f o.dst undef) w

section
variable {P : Program} {ops : Array Oper} {n : Nat} {Q : Exit → Act → World → Prop} {S : World → Prop} {cl : Nat → Cl}

theorem upF_upon {o : Oper} {f : Nat → Value} {next : (Nat → Value) → World → Prop} {K : Act → World → Prop} {r : Result Next} (h : upF P o f next r)
    (hk : ∀ f w, next f w → K (E n f) w) : o.upon P (E n f) K No r := by
  cases r with
  | ok x w' =>
    cases x <;> simp only [upF] at h <;> try exact h.elim
    · simp only [Oper.upon, E_put]; exact hk _ _ h
    · simp only [Oper.upon, E_put]; exact hk _ _ h
    · simp only [Oper.upon]
      refine Calls.mono h fun e w'' ⟨v, he, hn⟩ => ?_
      subst he
      simp only [E_put]
      exact hk _ _ hn
  | halt x w' => exact h.elim

theorem TF.ta (hb : okBound n ops = true) : ∀ (l : List Nat) (S : World → Prop) (f : Nat → Value) (w : World), TF P ops n Q S cl l f w → TA P ops Q S cl l (E n f) w
  | [], _, _, _, h => h
  | i :: l, S, f, w, h => by
    obtain ⟨o, ho, h⟩ := h
    refine ⟨o, ho, ?_⟩
    simp only [okBound, Bool.and_eq_true] at hb
    have hs : ∀ cs b, o.op ≠ .select cs b := fun cs b => Region.noSelect_spec hb.1 i o cs b ho
    have hok : okOper n ops o = true := Array.all_eq_true_iff_forall_mem.1 hb.2 o (Array.mem_of_getElem? ho)
    have hb' : okBound n ops = true := by simp only [okBound, Bool.and_eq_true]; exact hb
    rw [wantF_eq hok, exec_eq hs hok]
    split
    · rename_i hw
      rw [if_pos hw] at h
      cases hc : cl i <;> simp only [hc] at h ⊢
      · obtain ⟨v, hv, h⟩ := h
        refine ⟨v, hv, ?_⟩
        rw [E_put]
        exact TF.ta hb' l _ _ _ h
      · obtain ⟨v, hv, h⟩ := h
        refine ⟨v, hv, ?_⟩
        rw [E_put]
        exact TF.ta hb' l _ _ _ h
      · exact upF_upon h fun f w ⟨S', h1, h2, h3⟩ => ⟨S', h1, h2, TF.ta hb' l _ _ _ h3⟩
      · exact upF_upon h fun f w h => TF.ta hb' l _ _ _ h
    · rename_i hw
      rw [if_neg hw] at h
      rw [E_put]
      exact TF.ta hb' l _ _ _ h

/-- A region in the text's order: no condition on the world. -/
theorem cw_region {id : Nat} {f : Nat → Value} {w : World} (cl : Nat → Cl) (l : List Nat) (hl : l = List.range ops.size) (hb : okBound n ops = true) (hP : (l.all fun i => cl i != .P) = true)
    (h : TF P ops n Q (fun _ => True) cl l f w) : (Code.region id ops false).wp P Q (E n f) w := by
  subst hl
  refine TA.plain (fun _ => trivial) (fun i hi => ?_) (TF.ta hb _ _ _ _ h)
  have := List.all_eq_true.1 hP i hi
  simpa using this
/-- A region that draws its order. -/
theorem cw_draw {id : Nat} {f : Nat → Value} {w : World} (hm : P.follows .mixedOrders = true) (S : World → Prop) (cl : Nat → Cl) (l : List Nat) (hok : okOrd ops cl l = true)
    (hb : okBound n ops = true) (hS : S w.drew) (h : TF P ops n Q S cl l f w.drew) : (Code.region id ops true).wp P Q (E n f) w :=
  TA.draw hm l hok hS (TF.ta hb _ _ _ _ h)

/-! ### 2. Steps -/
/-- The operation's value, whatever the world. -/
def PR (P : Program) (f : Nat → Value) (o : Oper) (v : Value) : Prop := ∀ w, (execOp (op f) o).run P w = .ok (.value v) w
/-- .. on each world that meets S. -/
def RR (P : Program) (S : World → Prop) (f : Nat → Value) (o : Oper) (v : Value) : Prop := ∀ w, S w → (execOp (op f) o).run P w = .ok (.value v) w

variable {i : Nat} {l : List Nat} {f : Nat → Value} {w : World} {d : Tmp} {xo : Op} {t : TypeId} {pos : String} {aft : Array Edge} {g : Option (Nat × Bool)}
theorem TF.nil (h : Q .normal (E n f) w) : TF P ops n Q S cl [] f w := h
theorem wantF_none {o : Oper} (h : o.guard = none) : wantF ops f o = true := by simp [wantF, h]
/-- The guard lets by. -/
theorem wantF_yes {o : Oper} {j : Nat} {want b : Bool} {dj : Tmp} (h : o.guard = some (j, want)) (hd : (ops[j]?).bind (·.dst) = some dj) (hv : f dj = .bool b) (hb : b = want) : wantF ops f o = true := by
  simp [wantF, h, yieldF, hd, hv, hb]
theorem wantF_no {o : Oper} {j : Nat} {want b : Bool} {dj : Tmp} (h : o.guard = some (j, want)) (hd : (ops[j]?).bind (·.dst) = some dj) (hv : f dj = .bool b) (hb : b = !want) : wantF ops f o = false := by
  simp [wantF, h, yieldF, hd, hv, hb]
theorem wantF_undef {o : Oper} {j : Nat} {want : Bool} {dj : Tmp} (h : o.guard = some (j, want)) (hd : (ops[j]?).bind (·.dst) = some dj) (hv : f dj = undef) : wantF ops f o = false := by
  simp [wantF, h, yieldF, hd, hv, undef]

theorem TF.u {v : Value} (ho : ops[i]? = some ⟨some d, xo, t, pos, aft, none⟩) (hc : cl i = .U) (hr : PR P f ⟨some d, xo, t, pos, aft, none⟩ v)
    (h : TF P ops n Q S cl l (upd f d v) w) : TF P ops n Q S cl (i :: l) f w := by
  refine ⟨_, ho, ?_⟩
  rw [if_pos (wantF_none rfl)]
  simp only [hc]
  exact ⟨v, hr, h⟩
theorem TF.ug {v : Value} (ho : ops[i]? = some ⟨some d, xo, t, pos, aft, g⟩) (hc : cl i = .U) (hg : wantF ops f ⟨some d, xo, t, pos, aft, g⟩ = true) (hr : PR P f ⟨some d, xo, t, pos, aft, g⟩ v)
    (h : TF P ops n Q S cl l (upd f d v) w) : TF P ops n Q S cl (i :: l) f w := by
  refine ⟨_, ho, ?_⟩
  rw [if_pos hg]
  simp only [hc]
  exact ⟨v, hr, h⟩
theorem TF.skip (ho : ops[i]? = some ⟨some d, xo, t, pos, aft, g⟩) (hg : wantF ops f ⟨some d, xo, t, pos, aft, g⟩ = false)
    (h : TF P ops n Q S cl l (upd f d undef) w) : TF P ops n Q S cl (i :: l) f w := by
  refine ⟨_, ho, ?_⟩
  rw [if_neg (by rw [hg]; simp)]
  exact h
theorem TF.skip0 (ho : ops[i]? = some ⟨none, xo, t, pos, aft, g⟩) (hg : wantF ops f ⟨none, xo, t, pos, aft, g⟩ = false)
    (h : TF P ops n Q S cl l f w) : TF P ops n Q S cl (i :: l) f w := by
  refine ⟨_, ho, ?_⟩
  rw [if_neg (by rw [hg]; simp)]
  exact h
/-- An operation under a guard that is not decided, which has a value all the same: the slot's value, if the guard lets by. -/
theorem TF.uq {v : Value} {j : Nat} {want b : Bool} {dj : Tmp} (ho : ops[i]? = some ⟨some d, xo, t, pos, aft, some (j, want)⟩) (hc : cl i = .U) (hd : (ops[j]?).bind (·.dst) = some dj) (hv : f dj = .bool b)
    (hr : PR P f ⟨some d, xo, t, pos, aft, some (j, want)⟩ v) (h : TF P ops n Q S cl l (upd f d (bif b == want then v else undef)) w) : TF P ops n Q S cl (i :: l) f w := by
  by_cases hb : b = want
  · refine TF.ug ho hc (wantF_yes rfl hd hv hb) hr ?_
    simpa [hb] using h
  · have hb' : b = !want := by cases b <;> cases want <;> simp_all
    refine TF.skip ho (wantF_no rfl hd hv hb') ?_
    simpa [hb'] using h
theorem TF.r {v : Value} (ho : ops[i]? = some ⟨some d, xo, t, pos, aft, g⟩) (hc : cl i = .R) (hg : wantF ops f ⟨some d, xo, t, pos, aft, g⟩ = true) (hr : RR P S f ⟨some d, xo, t, pos, aft, g⟩ v)
    (h : TF P ops n Q S cl l (upd f d v) w) : TF P ops n Q S cl (i :: l) f w := by
  refine ⟨_, ho, ?_⟩
  rw [if_pos hg]
  simp only [hc]
  exact ⟨v, hr, h⟩
/-- An operation that hands back a value, and may have turned the world. -/
theorem TF.x {v : Value} {w' : World} (ho : ops[i]? = some ⟨some d, xo, t, pos, aft, g⟩) (hc : cl i = .X) (hg : wantF ops f ⟨some d, xo, t, pos, aft, g⟩ = true)
    (hr : (execOp (op f) ⟨some d, xo, t, pos, aft, g⟩).run P w = .ok (.value v) w') (h : TF P ops n Q S cl l (upd f d v) w') : TF P ops n Q S cl (i :: l) f w := by
  refine ⟨_, ho, ?_⟩
  rw [if_pos hg]
  simp only [hc, hr]
  exact h
theorem TF.x0 {v : Value} {w' : World} (ho : ops[i]? = some ⟨none, xo, t, pos, aft, g⟩) (hc : cl i = .X) (hg : wantF ops f ⟨none, xo, t, pos, aft, g⟩ = true)
    (hr : (execOp (op f) ⟨none, xo, t, pos, aft, g⟩).run P w = .ok (.value v) w') (h : TF P ops n Q S cl l f w') : TF P ops n Q S cl (i :: l) f w := by
  refine ⟨_, ho, ?_⟩
  rw [if_pos hg]
  simp only [hc, hr]
  exact h
theorem TF.xs {w' : World} (ho : ops[i]? = some ⟨none, xo, t, pos, aft, g⟩) (hc : cl i = .X) (hg : wantF ops f ⟨none, xo, t, pos, aft, g⟩ = true)
    (hr : (execOp (op f) ⟨none, xo, t, pos, aft, g⟩).run P w = .ok .skip w') (h : TF P ops n Q S cl l f w') : TF P ops n Q S cl (i :: l) f w := by
  refine ⟨_, ho, ?_⟩
  rw [if_pos hg]
  simp only [hc, hr]
  exact h
theorem TF.p {v : Value} {w' : World} {S' : World → Prop} (ho : ops[i]? = some ⟨some d, xo, t, pos, aft, g⟩) (hc : cl i = .P) (hg : wantF ops f ⟨some d, xo, t, pos, aft, g⟩ = true)
    (hr : (execOp (op f) ⟨some d, xo, t, pos, aft, g⟩).run P w = .ok (.value v) w') (hsub : ∀ x, S' x → S x) (hS : S' w') (h : TF P ops n Q S' cl l (upd f d v) w') : TF P ops n Q S cl (i :: l) f w := by
  refine ⟨_, ho, ?_⟩
  rw [if_pos hg]
  simp only [hc, hr]
  exact ⟨S', hsub, hS, h⟩
/-- A call. -/
theorem run_callFunc {fn : Func} {k : FuncId} (hf : P.funcs[k]? = some fn) (hb : fn.body.isNone = false) (hn : (fn.name == "runtime.NumGoroutine") = false) (args : Array Value) (w : World) :
    (callFunc k args).run P w = .ok (.enter k args) w := by
  have hb' : ¬ (fn.body.isNone = true) := by rw [hb]; simp
  have hn' : ¬ ((fn.name == "runtime.NumGoroutine") = true) := by rw [hn]; simp
  simp only [callFunc, Sem.run_bind, run_program, Result.andThen_ok, hf]
  rw [if_neg hn', if_neg hb']
  rfl
theorem run_call {fn : Func} {k : FuncId} {c : Call} {o : Oper} {fv : Operand} (ho : o.op = .call c) (hcl : c.callee = .value fv) (hfv : op f fv = .func (.func k) #[] #[])
    (hf : P.funcs[k]? = some fn) (hb : fn.body.isNone = false) (hn : (fn.name == "runtime.NumGoroutine") = false) (w : World) :
    (execOp (op f) o).run P w = .ok (.enter k (c.args.map (op f))) w := by
  have h1 := run_callFunc (P := P) hf hb hn (c.args.map (op f)) w
  simp only [execOp, ho, resolve, hcl, hfv, Deferred.ofValue, invoke, Sem.run_bind, Sem.run_pure, Result.andThen_ok, List.append_toArray, Array.empty_append, Array.append_empty]
  simpa using h1
/-- What a function does, told of the caller: it is there, and what its call comes to. -/
structure Fnc (P : Program) (k : FuncId) (fn : Func) : Prop where
  there : P.funcs[k]? = some fn
  body : fn.body.isNone = false
  name : (fn.name == "runtime.NumGoroutine") = false
theorem TF.call {fn : Func} {k : FuncId} {as : Array Operand} {ts : Array TypeId} {args : List Value} {R : Ending → World → Prop} (hfn : Fnc P k fn)
    (ho : ops[i]? = some ⟨some d, .call ⟨.value (.func k), as, ts⟩, t, pos, aft, g⟩) (hc : cl i = .X) (hg : wantF ops f ⟨some d, .call ⟨.value (.func k), as, ts⟩, t, pos, aft, g⟩ = true)
    (ha : as.toList.map (op f) = args) (hcall : Calls P k args.toArray w R) (h : ∀ e w', R e w' → ∃ v, e = .returned v ∧ TF P ops n Q S cl l (upd f d v) w') : TF P ops n Q S cl (i :: l) f w := by
  refine ⟨_, ho, ?_⟩
  rw [if_pos hg]
  simp only [hc]
  rw [run_call (f := f) rfl rfl rfl hfn.there hfn.body hfn.name w]
  simp only [upF]
  have e : as.map (op f) = args.toArray := by
    subst ha
    apply Array.ext'
    simp
  rw [e]
  exact hcall.mono h
theorem TF.callp {fn : Func} {k : FuncId} {as : Array Operand} {ts : Array TypeId} {args : List Value} {R : Ending → World → Prop} (hfn : Fnc P k fn)
    (ho : ops[i]? = some ⟨some d, .call ⟨.value (.func k), as, ts⟩, t, pos, aft, g⟩) (hc : cl i = .P) (hg : wantF ops f ⟨some d, .call ⟨.value (.func k), as, ts⟩, t, pos, aft, g⟩ = true)
    (ha : as.toList.map (op f) = args) (hcall : Calls P k args.toArray w R) (h : ∀ e w', R e w' → ∃ v, e = .returned v ∧ ∃ S' : World → Prop, (∀ x, S' x → S x) ∧ S' w' ∧ TF P ops n Q S' cl l (upd f d v) w') : TF P ops n Q S cl (i :: l) f w := by
  refine ⟨_, ho, ?_⟩
  rw [if_pos hg]
  simp only [hc]
  rw [run_call (f := f) rfl rfl rfl hfn.there hfn.body hfn.name w]
  simp only [upF]
  have e : as.map (op f) = args.toArray := by
    subst ha
    apply Array.ext'
    simp
  rw [e]
  exact hcall.mono h

theorem dT {p : Prop} [Decidable p] (h : decide p = true) : p := of_decide_eq_true h
theorem dF {p : Prop} [Decidable p] (h : decide p = false) : ¬ p := of_decide_eq_false h
theorem nT {b : Bool} (h : (!b) = true) : b = false := by simpa using h
theorem nF {b : Bool} (h : (!b) = false) : b = true := by simpa using h
theorem eT {a b : List UInt8} (h : (a == b) = true) : a = b := by simpa using h
theorem eF {a b : List UInt8} (h : (a == b) = false) : a ≠ b := by simpa using h
/-- A guard that is not decided. -/
theorem TF.split {dj : Tmp} {b : Bool} (hv : f dj = .bool b) (ht : b = true → TF P ops n Q S cl l f w) (hf : b = false → TF P ops n Q S cl l f w) : TF P ops n Q S cl l f w := by
  cases b with
  | true => exact ht rfl
  | false => exact hf rfl
theorem cutS {f f' : Nat → Value} {s : Nat} {v : Value} (h : f = f') (h2 : f s = v) : f = upd f' s v := by
  funext t
  rw [upd_eq]
  by_cases e : t = s
  · rw [if_pos e, e, h2]
  · rw [if_neg e, h]
def clf (l : List Cl) (i : Nat) : Cl := l.getD i .X

/-! ### 3. Control -/
theorem cw_seq {a b : Code} (h : a.wp P (Exit.then (b.wp P Q) Q) (E n f) w) : (Code.seq a b).wp P Q (E n f) w := wp_seq h
theorem cw_skip (h : Q .normal (E n f) w) : Code.skip.wp P Q (E n f) w := wp_skip h
theorem cw_label {k : Nat} (h : Q .normal (E n f) w) : (Code.label k).wp P Q (E n f) w := wp_label h
theorem cw_exit {k : Nat} (h : Q (.exit k) (E n f) w) : (Code.exit k).wp P Q (E n f) w := wp_exit h
theorem cw_ret (h : Q .ret (E n f) w) : Code.ret.wp P Q (E n f) w := wp_ret h
theorem cw_block {k : Nat} {c : Code} (h : c.wp P (Exit.inBlock k Q) (E n f) w) : (Code.block k c).wp P Q (E n f) w := wp_block h
theorem cw_cond {c : Operand} {a b : Code} (t : Bool) (hx : okx n c = true) (hc : op f c = .bool t) (ht : t = true → a.wp P Q (E n f) w) (hf : t = false → b.wp P Q (E n f) w) : (Code.cond c a b).wp P Q (E n f) w :=
  wp_cond_split (t := t) (by rw [E_eval f hx, hc]) ht hf
theorem cw_condT {c : Operand} {a b : Code} {t : Bool} (hx : okx n c = true) (hc : op f c = .bool t) (ht : t = true) (h : a.wp P Q (E n f) w) : (Code.cond c a b).wp P Q (E n f) w :=
  cw_cond t hx hc (fun _ => h) (fun h' => by rw [ht] at h'; cases h')
theorem cw_condF {c : Operand} {a b : Code} {t : Bool} (hx : okx n c = true) (hc : op f c = .bool t) (ht : t = false) (h : b.wp P Q (E n f) w) : (Code.cond c a b).wp P Q (E n f) w :=
  cw_cond t hx hc (fun h' => by rw [ht] at h'; cases h') (fun _ => h)
/-- Ways meet. -/
theorem cw_join {a b : Code} (J : (Nat → Value) → World → Prop) (h : a.wp P (Exit.then (fun a' w' => ∃ f', a' = E n f' ∧ J f' w') Q) (E n f) w) (h2 : ∀ f w, J f w → b.wp P Q (E n f) w) : (Code.seq a b).wp P Q (E n f) w := by
  refine wp_seq (wp_mono h fun e a' w' hq => ?_)
  cases e with
  | normal =>
    obtain ⟨f', rfl, hj⟩ := hq
    exact h2 f' w' hj
  | _ => exact hq
theorem nx_join {J : (Nat → Value) → World → Prop} (h : J f w) : Exit.then (fun a' w' => ∃ f', a' = E n f' ∧ J f' w') Q .normal (E n f) w := ⟨f, rfl, h⟩
theorem cw_loop {c : Code} (I : Nat → (Nat → Value) → World → Prop) (m : Nat) (h0 : I m f w)
    (round : ∀ m f w, I m f w → c.wp P (Exit.then (fun a' w' => ∃ m' f', m' < m ∧ a' = E n f' ∧ I m' f' w') Q) (E n f) w) : (Code.loop c).wp P Q (E n f) w := by
  intro b k cs
  have key : ∀ m f w, I m f w → ∃ e a' w', Q e a' w' ∧ Arrives P (lone (b.at (E n f) (.code c :: .inLoop c :: k)) cs w) b k cs e a' w' := by
    intro m
    induction m using Nat.strongRecOn with
    | _ m ih =>
      intro f w hI
      obtain ⟨e, a₁, w₁, hq, harr⟩ := round m f w hI b (.inLoop c :: k) cs
      cases e with
      | normal =>
        obtain ⟨m', f', hlt, rfl, hI'⟩ := hq
        obtain ⟨e₂, a₂, w₂, hq₂, harr₂⟩ := ih m' hlt f' w₁ hI'
        exact ⟨e₂, a₂, w₂, hq₂, .of_steps (Steps.trans harr (.one step_inLoop)) harr₂⟩
      | exit id => exact ⟨_, a₁, w₁, hq, .pass (x := .inLoop c) rfl (fun _ _ => .inl (by simp)) harr⟩
      | goto l => exact ⟨_, a₁, w₁, hq, .pass (x := .inLoop c) rfl (fun _ _ => .inl (by simp)) harr⟩
      | ret => exact ⟨_, a₁, w₁, hq, .pass (x := .inLoop c) rfl (fun _ _ => .inl (by simp)) harr⟩
      | panic ch => exact ⟨_, a₁, w₁, hq, .pass (x := .inLoop c) rfl (fun _ _ => .inl (by simp)) harr⟩
      | outgrown => exact ⟨_, a₁, w₁, hq, .pass (x := .inLoop c) rfl (fun _ _ => .inl (by simp)) harr⟩
  obtain ⟨e, a', w', hq, harr⟩ := key m f w h0
  exact ⟨e, a', w', hq, .of_steps (.one step_loop) harr⟩

section
variable {a : Act} {K : Act → World → Prop} {k k' : Nat}
theorem nx_then (h : K a w) : Exit.then K Q .normal a w := h
theorem nx_block (h : Q .normal a w) : Exit.inBlock k Q .normal a w := h
theorem nx_loop {m m' : Nat} {I : Nat → (Nat → Value) → World → Prop} (hm : m' < m) (h : I m' f w) : Exit.then (fun a' w' => ∃ m' f', m' < m ∧ a' = E n f' ∧ I m' f' w') Q .normal (E n f) w := ⟨m', f, hm, rfl, h⟩
theorem ex_then (h : Q (.exit k) a w) : Exit.then K Q (.exit k) a w := h
theorem ex_here (h : Q .normal a w) : Exit.inBlock k Q (.exit k) a w := by simp only [Exit.inBlock, if_true]; exact h
theorem ex_past (hne : k' ≠ k) (h : Q (.exit k') a w) : Exit.inBlock k Q (.exit k') a w := by simp only [Exit.inBlock, if_neg hne]; exact h
theorem rt_then (h : Q .ret a w) : Exit.then K Q .ret a w := h
theorem rt_block (h : Q .ret a w) : Exit.inBlock k Q .ret a w := h
end

/-! ### 4. Entry and end -/
def U : Nat → Value := fun _ => undef
def argsF : Nat → List Value → (Nat → Value) → Nat → Value
  | _, [], f => f
  | k, v :: l, f => argsF (k + 1) l (upd f k v)
theorem argsF_get : ∀ (l : List Value) (k : Nat) (f : Nat → Value) (t : Nat), argsF k l f t = if k ≤ t ∧ t < k + l.length then l.getD (t - k) undef else f t
  | [], k, f, t => by simp [argsF]; omega
  | v :: l, k, f, t => by
    rw [argsF, argsF_get l (k + 1) (upd f k v) t, upd_eq]
    by_cases h1 : t = k
    · subst h1
      rw [if_neg (by omega), if_pos rfl, if_pos (by simp)]
      simp
    · by_cases h2 : k + 1 ≤ t ∧ t < k + 1 + l.length
      · have e : t - k = (t - (k + 1)) + 1 := by omega
        rw [if_pos h2, if_pos (by simp; omega), e]
        simp
      · rw [if_neg h2, if_neg h1, if_neg (by simp; omega)]
theorem enter {k : FuncId} {fn : Func} {c : Code} {args : List Value} {R : Ending → World → Prop} (hf : P.funcs[k]? = some fn) (hb : fn.body = some c) (hn : fn.ntmps = n) (hsz : Nat.ble args.length n = true)
    (h : c.wp P (bodyPost P fn R) (E n (argsF 0 args U)) w) : Calls P k args.toArray w R := by
  refine calls_of_wp hf hb ?_
  have : ({ tmps := args.toArray ++ Array.replicate (fn.ntmps - args.toArray.size) undef, defers := [] } : Act) = E n (argsF 0 args U) := by
    unfold E
    congr 1
    apply Array.ext'
    apply List.ext_getElem?
    intro t
    have hle : args.length ≤ n := Nat.le_of_ble_eq_true hsz
    simp only [Array.toList_append, Array.toList_replicate, hn, List.size_toArray, List.getElem?_append, List.getElem?_replicate, List.getElem?_map]
    by_cases h1 : t < args.length
    · have h2 : t < n := by omega
      simp [h1, h2, argsF_get, List.getElem?_range]
    · by_cases h2 : t < n
      · have h3 : t - args.length < n - args.length := by omega
        simp [h1, h2, h3, argsF_get, List.getElem?_range, U]
      · have h3 : ¬ t - args.length < n - args.length := by omega
        simp [h1, h2, h3, List.getElem?_eq_none]
  rw [this]
  exact h
theorem E_getD {t : Nat} (h : Nat.blt t n = true) : (E n f).tmps.getD t undef = f t := by
  have h : t < n := by simpa [Nat.blt_eq] using h
  have := E_get n f t
  simp only [h, if_true] at this
  simp [this]
theorem fin0 {fn : Func} {R : Ending → World → Prop} (hr : fn.results = #[]) (h : R (.returned (.tuple #[])) w) : bodyPost P fn R .ret (E n f) w :=
  ⟨rfl, _, by simp [results, hr], h⟩
theorem fin0n {fn : Func} {R : Ending → World → Prop} (hr : fn.results = #[]) (h : R (.returned (.tuple #[])) w) : bodyPost P fn R .normal (E n f) w :=
  ⟨rfl, _, by simp [results, hr], h⟩
theorem fin1 {fn : Func} {R : Ending → World → Prop} {t : Nat} {v : Value} (hr : fn.results = #[.tmp t]) (ht : Nat.blt t n = true) (hv : f t = v) (h : R (.returned v) w) : bodyPost P fn R .ret (E n f) w :=
  ⟨rfl, v, by rw [results_tmp hr, E_getD ht, hv], h⟩
theorem fin2 {fn : Func} {R : Ending → World → Prop} {t u : Nat} {v v' : Value} (hr : fn.results = #[.tmp t, .tmp u]) (ht : Nat.blt t n = true) (hu : Nat.blt u n = true) (hv : f t = v) (hv' : f u = v')
    (h : R (.returned (.tuple #[v, v'])) w) : bodyPost P fn R .ret (E n f) w :=
  ⟨rfl, _, by rw [results_tmp2 hr, E_getD ht, E_getD hu, hv, hv'], h⟩
theorem fin3 {fn : Func} {R : Ending → World → Prop} {t u s : Nat} {v v' v'' : Value} (hr : fn.results = #[.tmp t, .tmp u, .tmp s]) (ht : Nat.blt t n = true) (hu : Nat.blt u n = true) (hs : Nat.blt s n = true) (hv : f t = v) (hv' : f u = v') (hv'' : f s = v'')
    (h : R (.returned (.tuple #[v, v', v''])) w) : bodyPost P fn R .ret (E n f) w := by
  refine ⟨rfl, _, ?_, h⟩
  have e : (results fn (E n f).tmps).run P w = .ok (.tuple #[(E n f).tmps.getD t undef, (E n f).tmps.getD u undef, (E n f).tmps.getD s undef]) w := by simp [results, hr]
  rw [e, E_getD ht, E_getD hu, E_getD hs, hv, hv', hv'']
end
end Go.Q
