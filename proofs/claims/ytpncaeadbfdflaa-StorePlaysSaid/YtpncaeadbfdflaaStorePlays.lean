/- The given statement Rows.StorePlaysSaid: quayside/quaysidelaw10.StorePlays returns true for all arguments, and leaves its arguments as they were. No further condition. -/
import Derived.Test.YtpncaeadbfdflaaFns5
import Derived.Test.YtpncaeadbfdflaaRows
import Derived.Test.YtpncaeadbfdflaaPage2
import Derived.Test.YtpncaeadbfdflaaArgsP
import Derived.Test.YtpncaeadbfdflaaCore12
import Derived.Test.YtpncaeadbfdflaaPage3
import Derived.Test.YtpncaeadbfdflaaCore13
import Derived.Test.YtpncaeadbfdflaaCore14
import Derived.Test.YtpncaeadbfdflaaStore
import Derived.Test.YtpncaeadbfdflaaStoreV
import Derived.Test.YtpncaeadbfdflaaStoreR
import Derived.Test.YtpncaeadbfdflaaStoreS
import Derived.Test.YtpncaeadbfdflaaStoreL
import Derived.Test.YtpncaeadbfdflaaArgs
import Derived.WalkKit
import Derived.ProofKit
import Derived.OpenShut
import Derived.ShutString
import Derived.ChangeOld
import Derived.Below
import Derived.SizedLaws
import Derived.JoinedCond
set_option linter.unusedSimpArgs false
set_option linter.unusedVariables false
set_option maxRecDepth 10000
namespace Go.Proofs.Ytpncaeadbfdflaa
open Go.Q Go.RowKit Go.Proofs
theorem Try.ty43 : Ty Try.prog 43 (.struct (match Try.prog.underlying 43 with | some (.struct fs) => fs | _ => #[])) (.agg ⟨[(.int .i64 0), (.int .i64 0), (.int .i64 0), (.int .i64 0), (.int .u64 0), (.bool false), (.string ⟨⟨[]⟩⟩), (.bool false), (.string ⟨⟨[]⟩⟩), (.bool false), (.string ⟨⟨[]⟩⟩), (.bool false), (.string ⟨⟨[]⟩⟩), (.bool false), (.string ⟨⟨[]⟩⟩), (.bool false), (.string ⟨⟨[]⟩⟩), (.bool false), (.string ⟨⟨[]⟩⟩), (.bool false), (.string ⟨⟨[]⟩⟩)]⟩) 21 232 := ty_mk (by kernel_rfl) (by kernel_rfl)
theorem Try.fn10 : Fnc Try.prog 10 Try.f10 := ⟨Try.func10, by kernel_rfl, by kernel_rfl⟩
theorem Try.fn20 : Fnc Try.prog 20 Try.f20 := ⟨Try.func20, by kernel_rfl, by kernel_rfl⟩
theorem Try.fn22 : Fnc Try.prog 22 Try.f22 := ⟨Try.func22, by kernel_rfl, by kernel_rfl⟩
theorem StorePlays_ok (pages : Int) (A_script : Option Addr) (n_script c_script : Nat) (script : List OP) (w0 : World) (hpages1 : -9223372036854775808 ≤ pages) (hpages2 : pages ≤ 9223372036854775807) (h_script : RdS w0 21 A_script n_script c_script (script.flatMap opV)) (hl_script : script.length = n_script) (hok_script : ∀ o ∈ script, OpOk o) :
    Calls Try.prog 7 #[.int .i64 pages, .slice A_script n_script c_script] w0 fun e w => e = .returned (.bool true) ∧ Below w0.heap.size w0 w := by
  refine enter (args := [.int .i64 pages, .slice A_script n_script c_script]) Try.func7 rfl Try.ntmps7 rfl ?_
  have H := Sat.start w0
  refine cw_seq ?_
  -- region 0 law.go:68
  refine cw_region (clf [.U]) [0] rfl (by kernel_rfl) (by decide) ?_
  refine TF.u (v := (.bool _)) rfl rfl (pr_assign rfl) ?_
  refine TF.nil (nx_then ?_)
  refine cw_seq ?_
  refine cw_seq ?_
  -- region 1 law.go:69
  refine cw_region (clf [.X, .U, .U, .U, .U, .U, .U]) [0, 1, 2, 3, 4, 5, 6] rfl (by kernel_rfl) (by decide) ?_
  refine TF.call (args := []) Try.fn10 rfl rfl (wantF_none rfl) rfl (awake_ok _) ?_
  rintro e_ w ⟨rfl, hb1⟩
  refine ⟨_, rfl, ?_⟩
  replace H := H.below hb1
  refine TF.u (v := (.bool _)) rfl rfl (pr_not rfl) ?_
  refine TF.u (v := (.bool _)) rfl rfl (pr_move rfl) ?_
  refine TF.ug (v := (.slice _ _ _)) rfl rfl (wantF_yes rfl rfl rfl rfl) (pr_move rfl) ?_
  refine TF.ug (v := (.int .i64 _)) rfl rfl (wantF_yes rfl rfl rfl rfl) (pr_len rfl Try.underlying40 rfl) ?_
  refine TF.ug (v := (.bool _)) rfl rfl (wantF_yes rfl rfl rfl rfl) (pr_gtr rfl rfl) ?_
  refine TF.u (v := (.bool _)) rfl rfl (pr_pickF rfl rfl rfl) ?_
  refine TF.nil (nx_then ?_)
  refine cw_cond _ rfl rfl (fun hq3 => ?_) (fun hq3 => ?_)
  ·
    have hp3 := dT hq3
    refine cw_seq ?_
    -- region 2 law.go:70
    refine cw_region (clf [.X, .U]) [0, 1] rfl (by kernel_rfl) (by decide) ?_
    refine TF.call (args := []) Try.fn10 rfl rfl (wantF_none rfl) rfl (awake_ok _) ?_
    rintro e_ w ⟨rfl, hb4⟩
    refine ⟨_, rfl, ?_⟩
    replace H := H.below hb4
    refine TF.u (v := (.bool _)) rfl rfl (pr_assign rfl) ?_
    refine TF.nil (nx_then ?_)
    refine cw_ret (rt_then (fin1 (v := (.bool _)) Try.results7 rfl rfl ?_))
    exact ⟨by simp, H.base⟩
  ·
    have hp3 := dF hq3
    refine cw_skip (nx_then ?_)
    refine cw_seq ?_
    -- region 3 law.go:72
    refine cw_region (clf [.U, .X, .U, .X, .U, .U]) [0, 1, 2, 3, 4, 5] rfl (by kernel_rfl) (by decide) ?_
    refine TF.u (v := (.int .i64 _)) rfl rfl (pr_move rfl) ?_
    refine TF.call (args := [(.int .i64 _)]) Try.fn12 rfl rfl (wantF_none rfl) rfl (snew_ok _ _ (by omega) (by omega)) ?_
    rintro e_ w ⟨tb5, rfl, hn5, ok5⟩
    refine ⟨_, rfl, ?_⟩
    replace H := H.newC hn5
    replace H : Sat _ _ _ [_] := H
    refine TF.u (v := (.int .i64 _)) rfl rfl (pr_move rfl) ?_
    refine TF.call (args := [(.int .i64 _)]) Try.fn20 rfl rfl (wantF_none rfl) rfl (rnew_ok _ _ (by omega) (by omega)) ?_
    rintro e_ w ⟨tb6, rfl, hn6, ok6⟩
    refine ⟨_, rfl, ?_⟩
    replace H := H.newC hn6
    replace H : Sat _ _ _ [_, _] := H
    refine TF.u (v := (.pointer (some ⟨_, 0, none⟩))) rfl rfl (pr_assign rfl) ?_
    refine TF.u (v := (.pointer (some ⟨_, 0, none⟩))) rfl rfl (pr_assign rfl) ?_
    refine TF.nil (nx_then ?_)
    refine cw_seq ?_
    refine cw_seq ?_
    -- region 4 law.go:73
    refine cw_region (clf [.U, .U, .U, .U, .U, .X, .U, .U]) [0, 1, 2, 3, 4, 5, 6, 7] rfl (by kernel_rfl) (by decide) ?_
    skip
    refine TF.u (v := (.pointer (some ⟨_, 0, none⟩))) rfl rfl (pr_move rfl) ?_
    refine TF.u (v := (.bool _)) rfl rfl (pr_peql Try.underlying30 rfl rfl) ?_
    refine TF.u (v := (.bool _)) rfl rfl (pr_move rfl) ?_
    refine TF.ug (v := (.pointer (some ⟨_, 0, none⟩))) rfl rfl (wantF_yes rfl rfl rfl rfl) (pr_move rfl) ?_
    refine TF.ug (v := (.pointer (some ⟨_, 0, none⟩))) rfl rfl (wantF_yes rfl rfl rfl rfl) (pr_move rfl) ?_
    obtain ⟨F7a, hF7a, hU7a⟩ := H.focus (k := 1) rfl
    obtain ⟨F7b, hF7b, hU7b⟩ := H.focus (k := 0) rfl
    refine TF.call (args := [(.pointer (some ⟨_, 0, none⟩)), (.pointer (some ⟨_, 0, none⟩))]) Try.fn21 rfl rfl (wantF_yes rfl rfl rfl rfl) rfl (alike_ok _ _ _ _ _ _ _ hF7a hF7b (SRel.new pages)) ?_
    rintro e_ w ⟨rfl, hb7⟩
    refine ⟨_, rfl, ?_⟩
    replace H := H.below hb7
    refine TF.ug (v := (.bool _)) rfl rfl (wantF_yes rfl rfl rfl rfl) (pr_not rfl) ?_
    refine TF.u (v := (.bool _)) rfl rfl (pr_pickF rfl rfl rfl) ?_
    refine TF.nil (nx_then ?_)
    refine cw_condF (t := _) rfl rfl rfl ?_
    refine cw_skip (nx_then ?_)
    refine cw_seq ?_
    refine cw_seq ?_
    -- region 6 law.go:76
    refine cw_region (clf [.U, .U, .U]) [0, 1, 2] rfl (by kernel_rfl) (by decide) ?_
    refine TF.u (v := (.slice _ _ _)) rfl rfl (pr_move rfl) ?_
    refine TF.u (v := (.int .i64 _)) rfl rfl (pr_len rfl Try.underlying40 rfl) ?_
    refine TF.u (v := (.int .i64 _)) rfl rfl (pr_move rfl) ?_
    refine TF.nil (nx_then ?_)
    refine cw_block ?_
    refine cw_loop (fun m_q f_q w => ∃ (g_ : Nat → Value) (i : Nat) (s : SS) (r : SS), m_q = n_script - i ∧ f_q = (upd (upd (upd (upd (upd g_ 1 (.slice A_script n_script c_script)) 5 (.pointer (some ⟨tb5, 0, none⟩))) 6 (.pointer (some ⟨tb6, 0, none⟩))) 29 (.int .i64 (n_script : Int))) 30 (.int .i64 (i : Int))) ∧ Sat [] w0 w [cStore 60 65 tb5 (s), cRStore 9 92 tb6 (r)] ∧ (i ≤ n_script) ∧ (SRel s r)) (n_script - 0) ?_ ?_
    ·
      exact ⟨_, 0, _, _, rfl, (cutS (cutS (cutS (cutS (cutS rfl rfl) rfl) rfl) rfl) rfl), (H.two (i := 1) (j := 0) rfl rfl), Nat.zero_le _, (SRel.new pages)⟩
    ·
      clear H
      rintro m_ f_ w ⟨g_, i, s, r, rfl, rfl, H, hi, hR⟩
      refine cw_seq ?_
      -- region 7 law.go:76
      refine cw_region (clf [.U]) [0] rfl (by kernel_rfl) (by decide) ?_
      refine TF.u (v := (.bool _)) rfl rfl (pr_lss rfl rfl) ?_
      refine TF.nil (nx_then ?_)
      refine cw_seq ?_
      refine cw_cond _ rfl rfl (fun hq9 => ?_) (fun hq9 => ?_)
      ·
        have hp9 := dT hq9
        refine cw_skip (nx_then ?_)
        refine cw_seq ?_
        refine cw_block ?_
        refine cw_seq ?_
        -- region 8 law.go:76
        refine cw_region (clf [.U, .U]) [0, 1] rfl (by kernel_rfl) (by decide) ?_
        skip
        refine TF.u (v := (.int .i64 _)) rfl rfl (pr_move rfl) ?_
        refine TF.u (v := (.int .i64 _)) rfl rfl (pr_assign rfl) ?_
        refine TF.nil (nx_then ?_)
        refine cw_seq ?_
        -- region 9 law.go:77
        refine cw_region (clf [.U, .U, .U, .U, .U, .X, .X, .U]) [0, 1, 2, 3, 4, 5, 6, 7] rfl (by kernel_rfl) (by decide) ?_
        refine TF.u (v := (.pointer (some ⟨_, 0, none⟩))) rfl rfl (pr_move rfl) ?_
        refine TF.u (v := (.pointer (some ⟨_, 0, none⟩))) rfl rfl (pr_move rfl) ?_
        refine TF.u (v := (.slice _ _ _)) rfl rfl (pr_move rfl) ?_
        refine TF.u (v := (.int .i64 _)) rfl rfl (pr_move rfl) ?_
        obtain ⟨o, ho⟩ : ∃ o, script[i]? = some o := ⟨_, List.getElem?_eq_getElem (by omega)⟩
        have hO := hok_script o (List.mem_of_getElem? ho)
        obtain ⟨o1, o2, o3, o4, o5, o6, o7, o8, o9⟩ := (show OpOk o from hO)
        refine TF.idx (h_script.below H.base) rfl rfl (wantF_none rfl) Try.underlying40 (Try.ty43.s) rfl rfl (by omega) (by omega) ?_
        intro p_ hc_
        replace hc_ : ∀ j u, (opV o)[j]? = some u → World.cell? _ (p_.add j) = some u := fun j u hu => hc_ j u (by have h_ := (List.getElem?_eq_some_iff.1 hu).1; rw [opV_len hO.p.len] at h_; exact h_) ((flat_atL (fun a ha => opV_len (hok_script a ha).p.len) ho (by have h_ := (List.getElem?_eq_some_iff.1 hu).1; rw [opV_len hO.p.len] at h_; exact h_)).trans hu)
        refine TF.loadN (cs := opV o) rfl rfl (wantF_none rfl) (Try.ty43.s) rfl rfl (opV_len hO.p.len) hc_ ?_
        replace H := (H.two (i := 0) (j := 0) rfl rfl).sep
        obtain ⟨F10, hF10, hU10⟩ := H.focus (k := 0) rfl
        refine TF.call (args := [(.pointer (some ⟨_, 0, none⟩)), (.pointer (some ⟨_, 0, none⟩)), (.agg ⟨opV o⟩)]) Try.fn22 rfl rfl (wantF_none rfl) rfl (does_ok _ _ _ _ _ o _ hF10 hR hO) ?_
        rintro e_ w ⟨rfl, hu10, hR10⟩
        refine ⟨_, rfl, ?_⟩
        replace H := (hU10 hu10).unsep
        replace H : Sat _ _ _ [_, _] := H
        refine TF.u (v := (.bool _)) rfl rfl (pr_not rfl) ?_
        refine TF.nil (nx_then ?_)
        refine cw_condF (t := _) rfl rfl rfl ?_
        refine cw_skip (nx_block (nx_then ?_))
        -- region 11 law.go:76
        refine cw_region (clf [.U, .U]) [0, 1] rfl (by kernel_rfl) (by decide) ?_
        refine TF.u (v := (.int .i64 _)) rfl rfl (pr_add rfl rfl (IntWalk.i64_in _ (by omega))) ?_
        refine TF.u (v := (.int .i64 _)) rfl rfl (pr_move rfl) ?_
        refine TF.nil (nx_loop (m' := n_script - (i + 1)) (by omega) ?_)
        exact ⟨_, i + 1, _, _, rfl, (cutS (cutS (cutS (cutS (cutS rfl rfl) rfl) rfl) rfl) rfl), H, by omega, hR10⟩
      ·
        have hp9 := dF hq9
        refine cw_exit (ex_then (ex_then (ex_here (nx_then ?_))))
        refine cw_seq ?_
        -- region 12 law.go:81
        refine cw_region (clf [.U, .U, .X, .U]) [0, 1, 2, 3] rfl (by kernel_rfl) (by decide) ?_
        skip
        refine TF.u (v := (.pointer (some ⟨_, 0, none⟩))) rfl rfl (pr_move rfl) ?_
        refine TF.u (v := (.pointer (some ⟨_, 0, none⟩))) rfl rfl (pr_move rfl) ?_
        obtain ⟨F11a, hF11a, hU11a⟩ := H.focus (k := 0) rfl
        obtain ⟨F11b, hF11b, hU11b⟩ := H.focus (k := 1) rfl
        refine TF.call (args := [(.pointer (some ⟨_, 0, none⟩)), (.pointer (some ⟨_, 0, none⟩))]) Try.fn21 rfl rfl (wantF_none rfl) rfl (alike_ok _ _ _ _ _ _ _ hF11a hF11b hR) ?_
        rintro e_ w ⟨rfl, hb11⟩
        refine ⟨_, rfl, ?_⟩
        replace H := H.below hb11
        refine TF.u (v := (.bool _)) rfl rfl (pr_assign rfl) ?_
        refine TF.nil (nx_then ?_)
        refine cw_ret (fin1 (v := (.bool _)) Try.results7 rfl rfl ?_)
        exact ⟨by simp, H.base⟩
end Go.Proofs.Ytpncaeadbfdflaa
namespace Go.Proofs.Ytpncaeadbfdflaa
open Go.ChangeShapes Go.WideShapes Go.ChangeAt Go.RowKit
open Go.ChangeMaps (open_string shut_string)
theorem storePlays_own : ownKnob Try.prog.godebug = none := by kernel_rfl
theorem storePlays_laid : laidOutB Try.prog = true := by kernel_rfl
set_option maxRecDepth 100000 in
theorem storePlays_lifted (os : Os) (started : os.Started) (H : Type) (enc : TypeId × Value → H) :
    ReturnsInHanded {} Try.checked os 7 .any (Rows.storePlaysSpec.pre6 enc Try.prog Try.f7 Rows.storePlaysRow.domain false) (Rows.storePlaysSpec.post enc Try.prog Try.f7 false true false false) := by
  refine returnsInHanded_of_change_sized (C := Try.checked) storePlays_own started (by kernel_rfl) Try.func7
    (ChangeSpec.witness6 (enc := enc) (C := Try.checked) false ⟨#[], #[.int .i64 0, .slice none 0 0], []⟩ 8 (by kernel_rfl) (by kernel_rfl) (by kernel_rfl) (by kernel_rfl)) ?_
  intro W base args ds gs before hval0 hW hcnd hsz0 _
  have hval : ∀ (j : Nat) t v, Try.f7.params[j]? = some t → args[j]? = some v → Value.okWide Try.prog W .any base t v := hval0
  have hW' := hW
  obtain ⟨p, q, hA0, hV, rfl, hfz, hnd⟩ := hW
  have hA : DataW.TrodAll enc Try.prog W 0 (fun _ => true) true Try.f7.params.toList args.toList ds p := hA0
  have hsz : (DataW.weightsEach Try.prog (Try.f7.params.toList ++ Rows.storePlaysSpec.plain.varTypes Try.prog) (ds ++ gs)).all (· ≤ reachBytes) = true := hsz0
  rw [Try.params7] at hA hval hsz
  obtain ⟨v0, vs0, d0, ds0, p0, q0, hargs, rfl, rfl, h0, r0⟩ := trodAll_cons hA
  obtain ⟨v1, vs1, d1, ds1, p1, q1, rfl, rfl, rfl, h1, r1⟩ := trodAll_cons r0
  obtain ⟨rfl, rfl, rfl⟩ := trodAll_nil r1
  obtain rfl : args = #[v0, v1] := by cases args; simp_all
  obtain ⟨rfl, rfl⟩ := trodVars_none hV
  obtain ⟨a0, rfl, rfl, rfl, m0⟩ := open_int Try.underlying3 (hval 0 3 v0 rfl rfl) h0
  have z0 := bounds_i64 m0
  have k1 := h1
  have lt1 : ∀ x ∈ p1, x.block < W.heap.size := by obtain ⟨m, hm⟩ := k1; exact DataW.trod_lt m _ _ _ hm
  obtain ⟨fu1, hf1⟩ := h1
  obtain ⟨A1, n1, c1, rfl⟩ := okWide_slice Try.underlying40 (hval 1 40 v1 rfl rfl)
  obtain ⟨A1', n1', c1', l1, he1, hr1, hl1, ho1⟩ := Go.Q.OT.slice (P := Try.prog) (t := 40) (sz := 21) Go.Q.opV Go.Q.OpOk ⟨fu1, _, hf1⟩ Try.underlying40 (by kernel_rfl) (fun cs_ h1_ => h1_.op (Try.underlying43) rfl Try.underlying3 (by kernel_rfl) (fun cs_ h_ => h_.page (Try.underlying27) rfl Try.underlying22 Try.underlying25 Try.underlying24 rfl Try.underlying4 Try.underlying9 (by kernel_rfl))) (fun a ha => Go.Q.opV_len ha.p.len)
  obtain ⟨rfl, rfl, rfl⟩ : A1 = A1' ∧ n1 = n1' ∧ c1 = c1' := by simpa [Value.cells] using he1
  clear hA0 hval0
  refine (StorePlays_ok a0 A1 n1 c1 l1 W z0.1 z0.2 hr1 hl1 ho1).mono fun e W' ⟨he, bel⟩ => ?_
  subst he
  exact ⟨_, rfl, _, _, _, [], _, [], hW', trodAll_mk1 (shut_bool Try.underlying4 _), (trodAll_cons_mk (shut_int Try.underlying3 m0) (trodAll_cons_mk (Below.trod storePlays_laid (by kernel_rfl) (of_decide_eq_true (by kernel_rfl)) k1 bel lt1) trodAll_mk0)), rfl, bel.frame _, fun h => by cases h⟩
theorem storePlays_holds : Rows.StorePlaysSaid :=
  OpenClaim.holds_of_wide 7 Try.f7 rfl rfl rfl rfl rfl rfl rfl ⟨rfl, rfl, rfl, rfl, rfl⟩ rfl rfl rfl rfl rfl (by kernel_rfl) Try.func7 (by kernel_rfl)
    (of_decide_eq_true (by kernel_rfl)) (by unfold Func.isWrapper; first | (rw [if_pos (by decide +kernel)]; kernel_rfl) | (rw [if_neg (by decide +kernel)]; exact ⟨rfl, rfl⟩))
    (fun os started H enc _ => storePlays_lifted os started H enc)
end Go.Proofs.Ytpncaeadbfdflaa
